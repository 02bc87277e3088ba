/- joined texts of a proof: EvalE, IsTrue, PlainV, AggG -/
import Derived.Test.YtkddkbpoefidpaaGreatDoorKG11
import Derived.Test.YtkddkbpoefidpaaGreatDoorKG09
import Derived.Test.YtkddkbpoefidpaaGreatDoorKG10
namespace Go.Proofs.YtkddkbpoefidpaaGreatDoor
open Go.RowKit
def VC (w:World) (g j:Nat) (y:Val):Prop:=w.cell? ⟨g,j*3,none⟩=some (.int .i64 y.kind)∧w.cell? ⟨g,j*3+1,none⟩=some (.int .i64 y.n)∧w.cell? ⟨g,j*3+2,none⟩=some (.string y.s)
theorem VC.ext {w w':World} {g j:Nat} {y:Val} (h:VC w g j y) (hx:Ext w w'):VC w' g j y:=⟨hx.at h.1,hx.at h.2.1,hx.at h.2.2⟩
theorem VC.far {w:World} {g j k r:Nat} {y:Val} {u:Value} (h:VC w g j y) (hr:r<3) (hne:j≠k):VC (w.setCell ⟨g,k*3+r,none⟩ u) g j y:=by
 have h1 : ∀s,s<3→(⟨g,k*3+r,none⟩:Addr)≠⟨g,j*3+s,none⟩:=fun s hs e=>by
  injection e with _ e _
  omega
 refine⟨?_,?_,?_⟩
 ·rw [World.cell?_setCell_other _ _ _ _ (by exact h1 0 (by omega))];exact h.1
 ·rw [World.cell?_setCell_other _ _ _ _ (by exact h1 1 (by omega))];exact h.2.1
 ·rw [World.cell?_setCell_other _ _ _ _ (by exact h1 2 (by omega))];exact h.2.2
theorem VC.put {w:World} {g M k:Nat} {f:Nat→Val} (F:FreeN w g (M*3)) (h : ∀j,j<M→VC w g j (f j)) (hk:k<M) (y:Val) :
  ∀j,j<M→VC (((w.setCell ⟨g,k*3,none⟩ (.int .i64 y.kind)).setCell ⟨g,k*3+1,none⟩ (.int .i64 y.n)).setCell ⟨g,k*3+2,none⟩ (.string y.s)) g j (if j=k then y else f j):=by
 intro j hj
 by_cases e:j=k
 ·subst e
  rw [if_pos rfl]
  obtain⟨⟨o0,p0⟩,f0⟩:=F (j*3) (by omega)
  obtain⟨⟨o1,p1⟩,f1⟩:=F (j*3+1) (by omega)
  obtain⟨⟨o2,p2⟩,f2⟩:=F (j*3+2) (by omega)
  refine⟨?_,?_,?_⟩ <;> go_simp
 ·rw [if_neg e]
  exact((((h j hj).far (r:=0) (by omega) e).far (r:=1) (by omega) e).far (r:=2) (by omega) e)
theorem made3 (a b c:Value) (n j r:Nat) (h:j<n) (hr:r<3):(madeCells #[a,b,c] (n*3)).toList[j*3+r]?=some (#[a,b,c][r]!):=by
 unfold madeCells
 rw [Array.toList_map,List.getElem?_map,Array.toList_range,List.getElem?_range (by omega)]
 have e:(j*3+r) % (#[a,b,c]:Array Value).size=r:=by
  show (j*3+r) % 3=r
  omega
 show some ((#[a,b,c])[(j*3+r) % (#[a,b,c]:Array Value).size]!)=_
 rw [e]
theorem evalAll_put (es:List ExprI) (row:List Val) (k j:Nat):(evalAll es row (k+1)).getD j nV=if j=k then stepE row (evalAll es row k) es[k]! else(evalAll es row k).getD j nV:=by
 by_cases e:j=k
 ·subst e;rw [if_pos rfl,evalAll_get es row (j+1) j (by omega)]
 ·rw [if_neg e,evalAll,List.getD_eq_getElem?_getD,List.getD_eq_getElem?_getD]
  by_cases c:j<k
  ·rw [List.getElem?_append_left (by rw [evalAll_len];exact c)]
  ·rw [List.getElem?_eq_none (by rw [List.length_append,evalAll_len];simp;omega),List.getElem?_eq_none (by rw [evalAll_len];omega)]
theorem expr_ok {h:View} {v:Value} {xs:List ExprI} (k:SliceOf Rep.expr h v xs) : ∀x∈xs,(okI x.a∧okI x.b)∧okVal x.c:=by
 intro x hx
 obtain⟨i,hi,rfl⟩:=List.getElem_of_mem hx
 obtain⟨p,cap,rfl,_,_,hp⟩:=k.form
 obtain⟨b,o,rfl⟩:=hp (by decide) (by omega)
 obtain⟨c,⟨rfl,h1,h2⟩,_⟩:=k.at i hi
 exact⟨⟨h1.2.1,h1.2.2.1⟩,h2⟩
theorem legalE_iff (i:Nat) (x:ExprI):legalE i x=true↔ ∀o∈opsE x,0≤o∧o<i:=by
 unfold legalE
 rw [List.all_eq_true]
 constructor
 ·intro h o ho;have:=h o ho;simp only [Bool.and_eq_true,decide_eq_true_eq]at this;exact this
 ·intro h o ho;simp only [Bool.and_eq_true,decide_eq_true_eq];exact h o ho
theorem opsE_ok {x:ExprI} (h:okI x.a∧okI x.b) : ∀o∈opsE x,okI o:=by
 intro o ho
 have:=List.mem_of_mem_take ho
 simp only [List.mem_cons,List.not_mem_nil,or_false]at this
 rcases this with rfl | rfl
 ·exact h.1
 ·exact h.2
set_option maxRecDepth 100000 in
set_option maxHeartbeats 8000000 in
theorem eval_in (v:Value) (es:List ExprI) (root:Nat) (vv:Value) (vals:List Val) (w:World) (he:SliceOf Rep.expr w.cell? v es) (hr:root<es.length) (hl:es.length≤1000) (hv:SliceOf Rep.val w.cell? vv vals) :
  Calls Tryz.prog 103 #[v,.int .i64 root,vv] w fun e w'=>e = .returned (valV (evalE es root vals))∧Ext w w':=by
 obtain⟨i3,hi3,hz30,hz31,hz32⟩:=info_parts info_val3
 have HXO:=Lib.hid (expr_ok he)
 have HVO:=Lib.hid (vals_ok hv)
 obtain⟨p,cap,rfl,hc1,hc2,hp⟩:=he.form
 obtain⟨q,qc,rfl,_⟩:=hv.form
 obtain⟨bb,ob,rfl⟩:=hp (by decide) (by omega)
 obtain⟨y,hy⟩ : ∃y,y=evalE es root vals:=⟨_,rfl⟩
 rw [←hy]
 have HY:=Lib.hid hy
 obtain⟨N,hN⟩ : ∃N,N=es.length:=⟨_,rfl⟩
 have HE:=Lib.hid he
 rw [←hN]at HE hc1 ⊢
 have HV:=Lib.hid hv
 have HN:=Lib.hid hN
 obtain⟨M,hM⟩ : ∃M,M=root+1:=⟨_,rfl⟩
 have HM:=Lib.hid hM
 have hMN:M≤N:=by omega
 have hM1:M≤1000:=by omega
 have em:(root:Int)+1=(M:Int):=by omega
 have hw1:IntKind.i64.wrap (M:Int)=(M:Int):=by rw [IntKind.wrap_i64];omega
 have hd0:decide ((root:Int)<0)=false:=by simp
 have hd1:decide ((N:Int)≤(root:Int))=false:=by simp;omega
 have hrM:(root:Int)<(M:Int):=by omega
 have hMc:M≤cap:=by omega
 have hMc':(M:Int)≤(cap:Int):=by omega
 have hM0:0<M:=by omega
 clear he hv hN hl hy hM hc2 hp
 go_enter Tryz.func103,Tryz.ntmps103
 go_wp2_with fail
 go_step3
 go_wp2_with (at_make;go_loud (refine wpList_make_full _ rfl _ _ 68 rfl w.heap.size 73 i3 _ 3 Tryz.underlying68 hi3 hz30 hz31 .i64 .i64 (M:Int) (M:Int) M rfl rfl rfl rfl (by rw [hz32];omega) (by unfold maxLen;omega) (by simp) ?_))
 intro w1 own1 gr1
 have hF1:=FreeN.made own1
 have hC1 : ∀j,j<M→VC w1 (w.heap.size+1) j nV:=fun j hj=>by
  obtain⟨g',cap',e1,_,_,_,_,hc⟩:=own_cells own1 hM0
  injection e1 with e1
  injection e1 with e1
  injection e1 with e1
  subst e1
  exact⟨hc (j*3) _ (made3 _ _ _ M j 0 hj (by omega)),hc (j*3+1) _ (made3 _ _ _ M j 1 hj (by omega)),hc (j*3+2) _ (made3 _ _ _ M j 2 hj (by omega))⟩
 have X1:=Lib.hid (ext_grown ((Ext.refl w).alloc _) gr1 (fun k hk=>by cases hk))
 have xz:=ext_grown (Ext.refl _) gr1 (fun k hk=>by cases hk)
 have HX0:=Lib.hid (show (w1.cell? ⟨w.heap.size,0,none⟩=some (.int .i64 0)∧w1.cell? ⟨w.heap.size,1,none⟩=some (.int .i64 0)∧w1.cell? ⟨w.heap.size,2,none⟩=some (.string ⟨#[]⟩))∧w1.frozen? ⟨w.heap.size,0,none⟩=false∧w1.frozen? ⟨w.heap.size,1,none⟩=false∧w1.frozen? ⟨w.heap.size,2,none⟩=false from
  ⟨⟨xz.at (by go_simp),xz.at (by go_simp),xz.at (by go_simp)⟩,xz.unfrozen (p:=⟨w.heap.size,0,none⟩) (v:= .int .i64 0) (by go_simp) (by go_simp),xz.unfrozen (p:=⟨w.heap.size,1,none⟩) (v:= .int .i64 0) (by go_simp) (by go_simp),xz.unfrozen (p:=⟨w.heap.size,2,none⟩) (v:= .string ⟨#[]⟩) (by go_simp) (by go_simp)⟩)
 clear xz
 obtain⟨g,hg⟩ : ∃g,g=w.heap.size+1:=⟨_,rfl⟩
 have hF2:FreeN w1 g (M*3):=by
  rw [hg]
  exact hF1
 rw [←hg]at hC1
 have HG:=Lib.hid hg
 have HF2:=Lib.hid hF2
 have HC2:=Lib.hid hC1
 have HX1:=Lib.hid (show Ext w w1 from X1.out)
 try rw [←hg]
 clear hF1 hF2 own1 gr1 X1 hg hC1
 go_wp2_with fail
 refine wp_label ?_
 go_wp2_with fail
 go_loopg [30] M (fun gk vi wr=> ∃(k:Nat),k≤M∧gk=M - k∧vi = .int .i64 k∧Hid (FreeN wr g (M*3))∧Hid (∀j,j<M→VC wr g j ((evalAll es vals k).getD j nV))∧Hid (FreeN wr w.heap.size 3)∧Ext w wr)
 case atStart=>exact⟨0,by omega,rfl,rfl,HF2.out,HC2.out,(fun j hj=>by
  obtain⟨⟨a0,a1,a2⟩,b0,b1,b2⟩:=HX0.out
  rcases(by omega:j=0∨j=1∨j=2)with rfl | rfl | rfl
  ·exact⟨⟨_,a0⟩,b0⟩
  ·exact⟨⟨_,a1⟩,b1⟩
  ·exact⟨⟨_,a2⟩,b2⟩),HX1.out⟩
 case round =>
  clear HF2 HX1 HX0 HC2
  obtain⟨k,hk,rfl,rfl,HFR,HCC,HRS,hx⟩:=hrel
  by_cases hlt:k<M
  ·have hd:decide ((k:Int)<(M:Int))=true:=by simp;omega
   have hkM:(k:Int)<(M:Int):=by omega
   have hkn:k<es.length:=by have:=HN.out;omega
   obtain⟨c0,c1,c2,c3,c4,c5,c6⟩:=expr_at HE.out k hkn
   have hok:=HXO.out es[k] (List.getElem_mem hkn)
   have hput : ∀j,(evalAll es vals (k+1)).getD j nV=if j=k then stepE vals (evalAll es vals k) es[k]else(evalAll es vals k).getD j nV:=fun j=>by
    rw [evalAll_put,getElem!_pos es k hkn]
   have hDO : ∀v∈evalAll es vals k,okVal v:=ok_evalAll (fun z hz=>(HXO.out z hz).2) HVO.out k (by omega)
   generalize es[k]=x at c0 c1 c2 c3 c4 c5 c6 hok hput
   obtain⟨xo,xa,xb,xc,⟨xk,xn,xs⟩⟩:=x
   dsimp only at c0 c1 c2 c3 c4 c5 c6 hok
   have hdl:(evalAll es vals k).length=k:=evalAll_len es vals k
   have HDO:=Lib.hid hDO
   have HPUT:=Lib.hid hput
   clear hput hDO
   generalize hD:evalAll es vals k=D at HCC HPUT HDO hdl
   have HD:=Lib.hid hdl
   replace c0:=hx.at c0
   replace c1:=hx.at c1
   replace c2:=hx.at c2
   replace c3:=hx.at c3
   replace c4:=hx.at c4
   replace c5:=hx.at c5
   replace c6:=hx.at c6
   have HOK:=Lib.hid hok
   have e0:=cell_lt c0
   clear hok hdl hD
   go_wp2_with fail
   refine(operands_any ⟨xo,xa,xb,xc,⟨xk,xn,xs⟩⟩ HOK.out.1.1 HOK.out.1.2 _).mono ?_
   rintro e w2 ⟨v2,rfl,s2,x2⟩
   have a0:w2.cell? ⟨wr.heap.size,0,none⟩=some (.int .i64 xo):=x2.at (by go_simp)
   have a1:w2.cell? ⟨wr.heap.size,1,none⟩=some (.int .i64 xa):=x2.at (by go_simp)
   have a2:w2.cell? ⟨wr.heap.size,2,none⟩=some (.int .i64 xb):=x2.at (by go_simp)
   have a3:w2.cell? ⟨wr.heap.size,3,none⟩=some (.int .i64 xc):=x2.at (by go_simp)
   have a4:w2.cell? ⟨wr.heap.size,4,none⟩=some (.int .i64 xk):=x2.at (by go_simp)
   have a5:w2.cell? ⟨wr.heap.size,5,none⟩=some (.int .i64 xn):=x2.at (by go_simp)
   have a6:w2.cell? ⟨wr.heap.size,6,none⟩=some (.string xs):=x2.at (by go_simp)
   have X2:=Lib.hid (show Ext wr w2 from ((Ext.refl wr).alloc _).trans x2)
   have e2:=cell_lt a0
   obtain⟨p2,d2,rfl,hpc1,hpc2,hp2⟩:=s2.form
   have hleg:=legalE_iff k ⟨xo,xa,xb,xc,⟨xk,xn,xs⟩⟩
   have hoks:=opsE_ok (x:=⟨xo,xa,xb,xc,⟨xk,xn,xs⟩⟩) HOK.out.1
   have hol:=opsE_len ⟨xo,xa,xb,xc,⟨xk,xn,xs⟩⟩
   obtain⟨O,hO⟩ : ∃O,O=opsE ⟨xo,xa,xb,xc,⟨xk,xn,xs⟩⟩:=⟨_,rfl⟩
   rw [←hO]at hleg hoks hol s2 hpc1 hp2 ⊢
   obtain⟨n,hn⟩ : ∃n,n=O.length:=⟨_,rfl⟩
   rw [←hn]at hol s2 hpc1 hp2 ⊢
   dsimp only at hol
   have hn2:n≤2:=by have:=arityE_le xo;omega
   have HLEG:=Lib.hid hleg
   have HOKS:=Lib.hid hoks
   have HOL:=Lib.hid hol
   have HO:=Lib.hid hO
   have HNO:=Lib.hid hn
   have S2:=Lib.hid s2
   have HP2:=Lib.hid hp2
   clear x2 c0 c1 c2 c3 c4 c5 c6 e0 hleg hoks hol hO hn s2 hp2 hpc1 hpc2
   go_wp2_with fail
   have HFR2:=Lib.hid (HFR.out.ext X2.out)
   have HRS2:=Lib.hid (HRS.out.ext X2.out)
   have HCC2:=Lib.hid (show ∀j,j<M→VC w2 g j (D.getD j nV)from fun j hj=>(HCC.out j hj).ext X2.out)
   have HX2:=Lib.hid (hx.trans X2.out)
   clear HFR HRS HCC hx X2
   go_loopg [10,12,38] n (fun gj va vo vi wq=> ∃(j:Nat) (u:Value),j≤n∧gj=n - j∧vi = .int .i64 j∧u=va∧Hid (OwnOf Rep.val wq (fun _=>True) w2.heap.size 73 u ((O.take j).map (argE D)))∧Hid (∀o∈O.take j,0≤o∧o<k)∧Ext w2 wq)
   case atStart=>exact⟨0,_,by omega,rfl,rfl,rfl,OwnOf.nil _ _ _ _ _,(fun o ho=>by simp at ho),Ext.refl w2⟩
   case round =>
    obtain⟨j,u,hj,rfl,rfl,rfl,OW,HLJ,hq⟩:=hrel
    by_cases hjn:j<n
    ·obtain⟨b2,o2,rfl⟩:=HP2.out (by decide) (by omega)
     have hjl:j<O.length:=by have:=HNO.out;omega
     have sv:=S2.out
     rw [HNO.out]at sv
     obtain⟨d0,_⟩:=int_at sv j hjl
     replace d0:=hq.at d0
     have hdj:decide ((j:Int)<(n:Int))=true:=by simp;omega
     have hmem:O[j]∈O:=List.getElem_mem hjl
     have htk:O.take (j+1)=O.take j ++ [O[j]]:=List.take_succ_eq_append_getElem hjl
     have hoo:=HOKS.out O[j] hmem
     generalize O[j]=z at d0 htk hoo hmem
     have HMEM:=Lib.hid hmem
     have HTK:=Lib.hid htk
     have HOO:=Lib.hid hoo
     have e1:=cell_lt d0
     have ol1:((O.take j).map (argE D)).length≤2:=by rw [List.length_map,List.length_take];omega
     obtain⟨o',ho'⟩ : ∃o',o'=(O.take j).map (argE D):=⟨_,rfl⟩
     rw [←ho']at OW ol1
     have HO1:=Lib.hid ho'
     have B1:o'.length+1≤maxLen:=by unfold maxLen;omega
     have B2:(o'.length+1)*32≤140737488355328:=by omega
     clear hmem htk hoo sv ho'
     go_wp2_with fail
     refine(legal_any k z _).mono ?_
     rintro e w3 ⟨rfl,rfl⟩
     by_cases hlz:0≤z∧z<k
     ·have hb:(decide (0≤z)&&decide (z<(k:Int)))=true:=by simp;exact hlz
      rw [hb]
      obtain⟨m,rfl⟩ : ∃m:Nat,z=m:=⟨z.toNat,by omega⟩
      have hmk:m<k:=by omega
      have hmM:(m:Int)<(M:Int):=by omega
      obtain⟨q0,q1,q2⟩:=(HCC2.out m (by omega)).ext hq
      have hoy:=ok_getD HDO.out m
      have hyz:argE D (m:Int)=D.getD m nV:=rfl
      generalize D.getD m nV=yy at q0 q1 q2 hoy hyz
      have HYZ:=Lib.hid hyz
      have HOY:=Lib.hid hoy
      obtain⟨yk,yn,ys⟩:=yy
      dsimp only at q0 q1 q2
      have e5:=cell_lt q0
      clear hb hlz hyz hoy
      go_wp2_with (at_builtin;go_loud (refine wpList_append_one Rep.val (fun _=>True) rfl _ _ 68 rfl w2.heap.size 73 i3 _ 32 Tryz.underlying68 hi3 hz30 hz31 hz32 rfl (by decide) u o' rfl (OW.out.ext ((Ext.refl wr).alloc _)) ⟨wr.heap.size,0,none⟩ 1 ⟨yk,yn,ys⟩ [.int .i64 yk,.int .i64 yn,.string ys] rfl ⟨rfl,HOY.out⟩ (by exact cells_new wr [.int .i64 yk,.int .i64 yn,.string ys] _) B1 B2 (by exact(hq.trans ((Ext.refl wr).alloc _)).size) ?_))
      intro g3 cap3 w3 own gr _
      have hxx:Ext w2 w3:=Ext.grownNew (hq.trans ((Ext.refl wr).alloc _)) gr OW.out.base
      have OW2:=Lib.hid own
      clear own gr
      go_wp2_with fail
      go_roundg (n - (j+1))
      case measure=>omega
      case rel =>
       refine⟨j+1,_,by omega,rfl,by go_num,rfl,?_,?_,hxx⟩
       ·show OwnOf _ _ _ _ _ _ _
        have e9:(O.take (j+1)).map (argE D)=o' ++ [⟨yk,yn,ys⟩]:=by rw [HTK.out,List.map_append,←HO1.out,List.map_cons,HYZ.out];rfl
        rw [e9]
        exact OW2.out
       ·show ∀o∈O.take (j+1),_
        rw [HTK.out]
        intro o ho
        rcases List.mem_append.1 ho with ho | ho
        ·exact HLJ.out o ho
        ·rw [List.mem_singleton]at ho
         subst ho
         omega
     ·have hb:(decide (0≤z)&&decide (z<(k:Int)))=false:=by
       rw [Bool.eq_false_iff]
       intro hh
       simp only [Bool.and_eq_true,decide_eq_true_eq]at hh
       exact hlz hh
      rw [hb]
      have hnl:legalE k ⟨xo,xa,xb,xc,⟨xk,xn,xs⟩⟩=false:=by
       rw [Bool.eq_false_iff]
       intro hh
       exact hlz (HLEG.out.1 hh z HMEM.out)
      have HSAME:=Lib.hid (show ∀i,(evalAll es vals (k+1)).getD i nV=D.getD i nV from fun i=>by
       rw [HPUT.out]
       split
       ·rename_i e
        subst e
        unfold stepE
        rw [HD.out,hnl,if_neg (by decide),List.getD_eq_getElem?_getD,List.getElem?_eq_none (by have:=HD.out;omega)]
        rfl
       ·rfl)
      clear hb hlz hnl
      go_wp2_with fail
      go_roundg (M - (k+1))
      case measure=>omega
      case rel=>exact⟨k+1,by omega,rfl,by go_num,HFR2.out.ext hq,(fun i hi=>by rw [HSAME.out];exact(HCC2.out i hi).ext hq),HRS2.out.ext hq,HX2.out.trans hq⟩
    ·have hjn2:j=n:=by omega
     have hdj : ¬(j:Int)<(n:Int):=by omega
     have hall:O.take j=O:=by rw [hjn2,HNO.out,List.take_length]
     have HLA:=Lib.hid HLJ.out
     rw [hall]at OW HLA
     have hag:O.map (argE D)=argsE ⟨xo,xa,xb,xc,⟨xk,xn,xs⟩⟩ D:=by unfold argsE;rw [←HO.out]
     have hlen:(argsE ⟨xo,xa,xb,xc,⟨xk,xn,xs⟩⟩ D).length=(arityE xo).toNat:=by rw [←hag,List.length_map,←HNO.out,HOL.out]
     have hst:stepE vals D ⟨xo,xa,xb,xc,⟨xk,xn,xs⟩⟩=applyV ⟨xo,xa,xb,xc,⟨xk,xn,xs⟩⟩ ((argsE ⟨xo,xa,xb,xc,⟨xk,xn,xs⟩⟩ D).getD 0 nV) ((argsE ⟨xo,xa,xb,xc,⟨xk,xn,xs⟩⟩ D).getD 1 nV) vals:=by
      unfold stepE
      rw [HD.out,if_pos (HLEG.out.2 HLA.out)]
     rw [hag]at OW
     have HST:=Lib.hid hst
     have HLEN:=Lib.hid hlen
     replace a0:=hq.at a0
     replace a1:=hq.at a1
     replace a2:=hq.at a2
     replace a3:=hq.at a3
     replace a4:=hq.at a4
     replace a5:=hq.at a5
     replace a6:=hq.at a6
     replace e2:=cell_lt a0
     clear hall hag hlen hst hjn2 hjn
     go_wp2_with fail
     refine(apply_any ⟨xo,xa,xb,xc,⟨xk,xn,xs⟩⟩ _ (argsE ⟨xo,xa,xb,xc,⟨xk,xn,xs⟩⟩ D) HLEN.out _ vals _ OW.out.slice (HV.out.ext (HX2.out.trans hq).full)).mono ?_
     rintro e w3 ⟨rfl,x3⟩
     obtain⟨yy,hyy⟩ : ∃z,z=applyV ⟨xo,xa,xb,xc,⟨xk,xn,xs⟩⟩ ((argsE ⟨xo,xa,xb,xc,⟨xk,xn,xs⟩⟩ D).getD 0 nV) ((argsE ⟨xo,xa,xb,xc,⟨xk,xn,xs⟩⟩ D).getD 1 nV) vals:=⟨_,rfl⟩
     rw [←hyy]
     have HYY:=Lib.hid (show stepE vals D ⟨xo,xa,xb,xc,⟨xk,xn,xs⟩⟩=yy from by rw [HST.out,hyy])
     have HQ3:=Lib.hid (hq.trans x3)
     have HFR3:=Lib.hid (HFR2.out.ext HQ3.out)
     have HRS3:=Lib.hid (HRS2.out.ext HQ3.out)
     have HCC3:=Lib.hid (show ∀i,i<M→VC w3 g i (D.getD i nV)from fun i hi=>(HCC2.out i hi).ext HQ3.out)
     have HX3:=Lib.hid (HX2.out.trans HQ3.out)
     obtain⟨yk,yn,ys⟩:=yy
     obtain⟨⟨o0,p0⟩,f0⟩:=HFR3.out (k*3) (by omega)
     obtain⟨⟨o1,p1⟩,f1⟩:=HFR3.out (k*3+1) (by omega)
     obtain⟨⟨o2,p2'⟩,f2⟩:=HFR3.out (k*3+2) (by omega)
     have e3:=cell_lt p0
     have HGB:=Lib.hid (show w.heap.size≤g∧g≠w.heap.size from by have:=HG.out;omega)
     clear hyy HFR2 HRS2 HCC2 HX2 x3 a0 a1 a2 a3 a4 a5 a6 e2 HST hq OW
     unfold valV
     dsimp only
     go_wp2_with fail
     go_roundg (M - (k+1))
     case measure=>omega
     case rel =>
      refine⟨k+1,by omega,rfl,by go_num,((HFR3.out.set _ _).set _ _).set _ _,(fun i hi=> ?_),fun j hj=> ?_,Below.setCell (Below.setCell (Below.setCell HX3.out HGB.out.1 _) HGB.out.1 _) HGB.out.1 _⟩
      ·rw [HPUT.out,HYY.out]
       exact VC.put HFR3.out HCC3.out hlt ⟨yk,yn,ys⟩ i hi
      ·obtain⟨⟨u,hu⟩,hf⟩:=HRS3.out j hj
       exact⟨⟨u,cell_set (cell_set (cell_set hu HGB.out.2) HGB.out.2) HGB.out.2⟩,by go_simp⟩
  ·have hkM:k=M:=by omega
   have hd : ¬(k:Int)<(M:Int):=by omega
   obtain⟨s0,s1,s2⟩:=HCC.out root (by have:=HM.out;omega)
   have hyy:(evalAll es vals k).getD root nV=y:=by
    have h1:=HY.out
    have h2:=HN.out
    have h3:=HM.out
    rw [h1]
    unfold evalE
    rw [if_pos (by omega),Int.toNat_natCast,show k=root+1 by omega]
   rw [hyy]at s0 s1 s2
   obtain⟨⟨o0,p0⟩,f0⟩:=HRS.out 0 (by omega)
   obtain⟨⟨o1,p1⟩,f1⟩:=HRS.out 1 (by omega)
   obtain⟨⟨o2,p2⟩,f2⟩:=HRS.out 2 (by omega)
   have e3:=cell_lt s0
   have e4:=cell_lt p0
   have HXF:=Lib.hid hx
   clear hkM HCC HRS HFR hx hyy
   go_wp2_with fail
   exact bodyPost_ret (v:=valV y) (by simp [results,Tryz.results103,go_sem,p0,p1,p2]) rfl ⟨rfl,Below.setCell (Below.setCell (Below.setCell HXF.out (Nat.le_refl _) _) (Nat.le_refl _) _) (Nat.le_refl _) _⟩
end Go.Proofs.YtkddkbpoefidpaaGreatDoor
namespace Go.Proofs.YtkddkbpoefidpaaGreatDoor
open Go.RowKit
set_option maxRecDepth 100000 in
set_option maxHeartbeats 4000000 in
theorem eval_any (v:Value) (es:List ExprI) (root:Int) (vv:Value) (vals:List Val) (w:World) (he:SliceOf Rep.expr w.cell? v es) (hl:es.length≤1000) (hv:SliceOf Rep.val w.cell? vv vals) :
  Calls Tryz.prog 103 #[v,.int .i64 root,vv] w fun e w'=>e = .returned (valV (evalE es root vals))∧Ext w w':=by
 by_cases h0:root<0
 ·have hy:evalE es root vals=nV:=by unfold evalE;rw [if_neg (by omega)]
  rw [hy]
  obtain⟨p,cap,rfl,_⟩:=he.form
  have hd0:decide (root<0)=true:=by simp;omega
  clear hy h0 he hv
  go_enter Tryz.func103,Tryz.ntmps103
  go_wp2_with fail
  go_step3
  go_wp2_with fail
  rw [Exit.noGoto_ret]
  exact bodyPost_ret (v:=valV nV) (by simp [results,Tryz.results103,go_sem,valV,nV];rfl) rfl ⟨rfl,(Ext.refl w).alloc _⟩
 ·by_cases h1:root<es.length
  ·obtain⟨r,rfl⟩ : ∃r:Nat,root=r:=⟨root.toNat,by omega⟩
   exact eval_in v es r vv vals w he (by omega) hl hv
  ·have hy:evalE es root vals=nV:=by unfold evalE;rw [if_neg (by omega)]
   rw [hy]
   obtain⟨p,cap,rfl,_⟩:=he.form
   have hd0:decide (root<0)=false:=by simp;omega
   have hd1:decide ((es.length:Int)≤root)=true:=by simp;omega
   clear hy h0 h1 he hv
   go_enter Tryz.func103,Tryz.ntmps103
   go_wp2_with fail
   go_step3
   go_wp2_with fail
   rw [Exit.noGoto_ret]
   exact bodyPost_ret (v:=valV nV) (by simp [results,Tryz.results103,go_sem,valV,nV];rfl) rfl ⟨rfl,(Ext.refl w).alloc _⟩
def trE (es:List ExprI) (pred:Int) (vals:List Val):Bool:=trueV (evalE es pred vals)
end Go.Proofs.YtkddkbpoefidpaaGreatDoor
namespace Go.Proofs.YtkddkbpoefidpaaGreatDoor
open Go.RowKit
def projE (es:List ExprI) (keys:List Int) (vals:List Val):List Val:=keys.map fun k=>evalE es k vals
theorem projE_len (es:List ExprI) (keys:List Int) (vals:List Val):(projE es keys vals).length=keys.length:=List.length_map _
theorem projE_take (es:List ExprI) (keys:List Int) (vals:List Val) (k:Nat) (h:k<keys.length):projE es (keys.take (k+1)) vals=projE es (keys.take k) vals ++ [evalE es keys[k] vals]:=by
 rw [List.take_succ_eq_append_getElem h]
 unfold projE
 rw [List.map_append]
 rfl
theorem expr_oks {h:View} {v:Value} {xs:List ExprI} (k:SliceOf Rep.expr h v xs) : ∀x∈xs,okVal x.c:=fun x hx=>(expr_ok k x hx).2
def argsG (es:List ExprI) (arg:Int) (vss:List (List Val)):List Val:=(vss.map fun vs=>evalE es arg vs).filter fun v=>decide (v.kind≠0)
theorem argsG_take (es:List ExprI) (arg:Int) (vss:List (List Val)) (k:Nat) (h:k<vss.length):argsG es arg (vss.take (k+1))=argsG es arg (vss.take k)++if (evalE es arg vss[k]).kind=0 then []else [evalE es arg vss[k]]:=by
 unfold argsG
 rw [List.take_succ_eq_append_getElem h,List.map_append,List.filter_append]
 congr 1
 rw [List.map_cons,List.map_nil,List.filter_cons,List.filter_nil]
 by_cases e:(evalE es arg vss[k]).kind=0
 ·rw [if_pos e,if_neg (by simp [e])]
 ·rw [if_neg e,if_pos (by simp [e])]
theorem argsG_len (es:List ExprI) (arg:Int) (vss:List (List Val)):(argsG es arg vss).length≤vss.length:=by
 unfold argsG
 exact Nat.le_trans (List.length_filter_le _ _) (by simp)
def aggE (es:List ExprI) (kind arg:Int) (vss:List (List Val)):Val :=
 if kind=1 then intVal vss.length else
 if kind=2 then sumV (argsG es arg vss)else
 if kind=3 then(if argsG es arg vss = []then nV else pickMin (argsG es arg vss))else
 if kind=4 then(if argsG es arg vss = []then nV else pickMax (argsG es arg vss))else
 if argsG es arg vss = []then nV else nV
end Go.Proofs.YtkddkbpoefidpaaGreatDoor
namespace Go.Proofs.YtkddkbpoefidpaaGreatDoor
open Go.RowKit
set_option maxRecDepth 100000 in
set_option maxHeartbeats 4000000 in
theorem project_gen (v:Value) (es:List ExprI) (kv:Value) (keys:List Int) (vv:Value) (vals:List Val) (w:World) (he:SliceOf Rep.expr w.cell? v es) (hl:es.length≤1000) (hk:SliceOf Rep.int w.cell? kv keys) (hkl:keys.length≤1000) (hv:SliceOf Rep.val w.cell? vv vals) :
  Calls Tryz.prog 53 #[v,kv,vv] w fun e w'=> ∃v',e = .returned v'∧OwnOf Rep.val w' (fun _=>True) w.heap.size 73 v' (projE es keys vals)∧Ext w w':=by
 obtain⟨i3,hi3,hz30,hz31,hz32⟩:=info_parts info_val3
 obtain⟨pe,ce,rfl,_⟩:=he.form
 obtain⟨pv,cv,rfl,_⟩:=hv.form
 obtain⟨p,cap,rfl,hc1,hc2,hp⟩:=hk.form
 obtain⟨N,hN⟩ : ∃N,N=keys.length:=⟨_,rfl⟩
 have HK:=Lib.hid hk
 rw [←hN]
 have HN:=Lib.hid hN
 have HP:=Lib.hid hp
 have HE:=Lib.hid he
 have HV:=Lib.hid hv
 have HC:=Lib.hid (expr_oks he)
 have HL:=Lib.hid hl
 have hNl:N≤1000:=by omega
 clear he hl hk hkl hv hp hc1 hc2 hN
 go_enter Tryz.func53,Tryz.ntmps53
 go_wp2_with fail
 go_loopg [7,12] N (fun gk vo vi wr=> ∃(k:Nat) (u:Value) (o:List Val),k≤N∧gk=N - k∧vi = .int .i64 k∧u=vo∧Hid (OwnOf Rep.val wr (fun _=>True) w.heap.size 73 u o)∧Hid (o=projE es (keys.take k) vals)∧Ext w wr)
 case atStart=>exact⟨0,_,[],by omega,rfl,rfl,rfl,OwnOf.nil _ _ _ _ _,rfl,Ext.refl w⟩
 case round =>
  obtain⟨k,u,o,hk,rfl,rfl,rfl,OW,AS,hx⟩:=hrel
  by_cases hlt:k<N
  ·have hkl:k<keys.length:=by have:=HN.out;omega
   have hd:decide ((k:Int)<(N:Int))=true:=by simp;omega
   obtain⟨b,o',rfl⟩:=HP.out (by decide) (by omega)
   have hv:=HK.out
   rw [←HN.out]at hv
   obtain⟨c0,_⟩:=int_at hv k hkl
   replace c0:=hx.at c0
   have hst:=projE_take es keys vals k hkl
   have hol:o.length≤1000:=by rw [AS.out];unfold projE;rw [List.length_map,List.length_take];omega
   rw [←AS.out]at hst
   generalize keys[k]=x at c0 hst
   obtain⟨y,hy⟩ : ∃y,y=evalE es x vals:=⟨_,rfl⟩
   have hoy:okVal y:=by rw [hy];exact ok_evalE HC.out (vals_ok HV.out) _
   have e0:=cell_lt c0
   have HST:=Lib.hid hst
   have HHY:=Lib.hid hy
   have HOY:=Lib.hid hoy
   have B1:o.length+1≤maxLen:=by unfold maxLen;omega
   have B2:(o.length+1)*32≤140737488355328:=by omega
   clear hst hv hol hy hoy
   go_wp2_with fail
   refine(eval_any _ es x _ vals _ (HE.out.ext hx.full) HL.out (HV.out.ext hx.full)).mono ?_
   rintro e w1 ⟨rfl,x1⟩
   rw [←HHY.out]
   have HX1:=Lib.hid x1
   obtain⟨yk,yn,ys⟩:=y
   clear x1
   dsimp only
   go_wp2_with (at_builtin;go_loud (refine wpList_append_one Rep.val (fun _=>True) rfl _ _ 68 rfl w.heap.size 73 i3 _ 32 Tryz.underlying68 hi3 hz30 hz31 hz32 rfl (by decide) u o rfl (OW.out.ext (HX1.out.alloc _)) ⟨w1.heap.size,0,none⟩ 1 ⟨yk,yn,ys⟩ [.int .i64 yk,.int .i64 yn,.string ys] rfl ⟨rfl,HOY.out⟩ (by exact cells_new w1 [.int .i64 yk,.int .i64 yn,.string ys] _) B1 B2 (by exact(hx.trans (HX1.out.alloc _)).size) ?_))
   intro g cap3 w3 own gr _
   have hxx:Ext w w3:=Ext.grownNew (hx.trans (HX1.out.alloc _)) gr OW.out.base
   have OW2:=Lib.hid own
   clear own gr
   go_wp2_with fail
   go_roundg (N - (k+1))
   case measure=>omega
   case rel=>exact⟨k+1,_,_,by omega,rfl,by go_num,rfl,OW2.out,by show _=_;rw [HST.out,←HHY.out],hxx⟩
  ·have hkN:k=N:=by omega
   have hd : ¬(k:Int)<(N:Int):=by omega
   have HF:=Lib.hid (show o=projE es keys vals from by
    have h:=AS.out
    rw [hkN,HN.out,List.take_length]at h
    exact h)
   clear hkN
   go_wp2_with fail
   go_ret
   exact⟨u,rfl,by rw [←HF.out];exact OW.out,hx⟩
set_option maxRecDepth 100000 in
set_option maxHeartbeats 8000000 in
theorem aggregate_gen (v:Value) (es:List ExprI) (kind:Int) (root:Int) (mv:Value) (vss:List (List Val)) (w:World) (he:SliceOf Rep.expr w.cell? v es) (hel:es.length≤1000) (hm:SliceOf (Rep.slice Rep.val) w.cell? mv vss) (hml:vss.length≤4096) (hk:kind≠1) :
  Calls Tryz.prog 109 #[v,.agg #[.int .i64 kind,.int .i64 root],mv] w fun e w'=>e = .returned (valV (aggE es kind root vss))∧Ext w w':=by
 obtain⟨i3,hi3,hz30,hz31,hz32⟩:=info_parts info_val3
 obtain⟨pe,ce,rfl,_⟩:=he.form
 obtain⟨p,cap,rfl,hc1,hc2,hp⟩:=hm.form
 obtain⟨N,hN⟩ : ∃N,N=vss.length:=⟨_,rfl⟩
 have HM:=Lib.hid hm
 rw [←hN]at HM
 rw [←hN]
 have HN:=Lib.hid hN
 have HP:=Lib.hid hp
 have HE:=Lib.hid (And.intro he (And.intro (expr_oks he) hel))
 have hNl:N≤4096:=by omega
 have HK:=Lib.hid hk
 have hk1:(kind==1)=false:=by simp;omega
 clear hm hN hp hc1 hc2 he hel hml hk
 go_enter Tryz.func109,Tryz.ntmps109
 go_wp2_with fail
 obtain⟨Q,hQ⟩ : ∃q,q=w.heap.size:=⟨_,rfl⟩
 have HQ:=Lib.hid hQ
 rw [←hQ]
 go_loopg [7,19] N (fun gk vo vi wr=> ∃(k:Nat) (u:Value) (o:List Val),k≤N∧gk=N - k∧vi = .int .i64 k∧u=vo∧Hid (OwnOf Rep.val wr (fun _=>True) (Q+2) 73 u o)∧Hid (o=argsG es root (vss.take k))∧Hid (wr.cell? ⟨Q,0,none⟩=some (.int .i64 kind)∧wr.cell? ⟨Q,1,none⟩=some (.int .i64 root))∧Hid (FreeN wr (Q+1) 3)∧Hid (Q+2≤wr.heap.size)∧Hid (Ext w wr))
 case atStart =>
  refine⟨0,_,[],by omega,rfl,rfl,rfl,OwnOf.nil _ _ _ _ _,rfl,⟨?_,?_⟩,fun j hj=> ?_,?_,((Ext.refl w).alloc _).alloc _⟩
  ·rw [hQ];go_simp
  ·rw [hQ];go_simp
  ·rw [hQ]
   match j,hj with
   |0,_=>exact⟨⟨.int .i64 0,by go_simp⟩,by go_simp⟩
   |1,_=>exact⟨⟨.int .i64 0,by go_simp⟩,by go_simp⟩
   |2,_=>exact⟨⟨.string ⟨#[]⟩,by go_simp⟩,by go_simp⟩
  ·show Q+2≤_;rw [hQ];simp
 case round =>
  clear hQ
  obtain⟨k,u,o,hk,rfl,rfl,rfl,OW,AS,BX,FR,HSZ,HX⟩:=hrel
  by_cases hlt:k<N
  ·have hkl:k<vss.length:=by have:=HN.out;omega
   have hd:decide ((k:Int)<(N:Int))=true:=by simp;omega
   obtain⟨b,o',rfl⟩:=HP.out (by decide) (by omega)
   have hv:=HM.out
   rw [HN.out]at hv
   obtain⟨c,⟨uv,rfl,sv⟩,hcell⟩:=hv.at k hkl
   have c0:=hcell 0 _ rfl
   simp only [show (Rep.slice Rep.val).size=1 from rfl,Nat.mul_one,Nat.add_zero]at c0
   replace c0:=HX.out.at c0
   obtain⟨pv,cv,rfl,_⟩:=sv.form
   have hst:=argsG_take es root vss k hkl
   rw [←AS.out]at hst
   have hol:o.length≤4096:=by rw [AS.out];have h1:=argsG_len es root (vss.take k);have h2:=List.length_take_le k vss;omega
   have hoy:okVal (evalE es root vss[k]):=ok_evalE HE.out.2.1 (vals_ok sv) root
   have SV:=Lib.hid sv
   generalize vss[k]=vals at c0 SV hst hoy
   obtain⟨y,hy⟩ : ∃y,y=evalE es root vals:=⟨_,rfl⟩
   rw [←hy]at hst hoy
   have HHY:=Lib.hid hy
   have HOY:=Lib.hid hoy
   have HST:=Lib.hid hst
   have e0:=cell_lt c0
   have b0:=BX.out.1
   have b1:=BX.out.2
   have B1:o.length+1≤maxLen:=by unfold maxLen;omega
   have B2:(o.length+1)*32≤140737488355328:=by omega
   clear hst hol hoy hy hv hcell sv
   go_wp2_with fail
   refine(eval_any _ es root _ vals _ (HE.out.1.ext HX.out.full) HE.out.2.2 (SV.out.ext HX.out.full)).mono ?_
   rintro e w1 ⟨rfl,x1⟩
   rw [←HHY.out]
   have X1:=Lib.hid x1
   obtain⟨yk,yn,ys⟩:=y
   clear x1 c0 b0 b1 e0
   dsimp only
   by_cases hyk:yk=0
   ·have hb1:(yk != 0)=false:=by simp [hyk]
    have HYK:=Lib.hid hyk
    clear hyk
    go_wp2_with fail
    go_roundg (N - (k+1))
    case measure=>omega
    case rel=>exact⟨k+1,u,o,by omega,rfl,by go_num,rfl,OW.out.ext (X1.out.alloc _),by show _=_;rw [HST.out,if_pos HYK.out,List.append_nil],⟨(X1.out.alloc _).at BX.out.1,(X1.out.alloc _).at BX.out.2⟩,FR.out.ext (X1.out.alloc _),Nat.le_trans HSZ.out (X1.out.alloc _).size,HX.out.trans (X1.out.alloc _)⟩
   ·have hb1:(yk != 0)=true:=by simp [hyk]
    have HYK:=Lib.hid hyk
    clear hyk
    go_wp2_with (at_builtin;go_loud (refine wpList_append_one Rep.val (fun _=>True) rfl _ _ 68 rfl (Q+2) 73 i3 _ 32 Tryz.underlying68 hi3 hz30 hz31 hz32 rfl (by decide) u o rfl (OW.out.ext ((X1.out.alloc _).alloc _)) ⟨w1.heap.size+1,0,none⟩ 1 ⟨yk,yn,ys⟩ [.int .i64 yk,.int .i64 yn,.string ys] rfl ⟨rfl,HOY.out⟩ (by have h:=cells_new (w1.alloc (.cells #[.int .i64 yk,.int .i64 yn,.string ys] 73)) [.int .i64 yk,.int .i64 yn,.string ys] 73;rw [show (w1.alloc (.cells #[.int .i64 yk,.int .i64 yn,.string ys] 73)).heap.size=w1.heap.size+1 by simp]at h;exact h) B1 B2 (by exact Nat.le_trans HSZ.out ((X1.out.alloc _).alloc _).size) ?_))
    intro g cap3 w3 own gr _
    have hbase : ∀x,u.ownBlock=some x→Q+2≤x:=fun x hx=>(OW.out.lt x hx).1
    have X2:=Lib.hid ((X1.out.alloc (.cells #[.int .i64 yk,.int .i64 yn,.string ys] 73)).alloc (.cells #[.int .i64 yk,.int .i64 yn,.string ys] 73))
    have OW3:=Lib.hid own
    have BX3:=Lib.hid (And.intro (cell_grown gr (X2.out.at BX.out.1) (fun x hx=>by have:=hbase x hx;omega)) (cell_grown gr (X2.out.at BX.out.2) (fun x hx=>by have:=hbase x hx;omega)))
    have FR3:=Lib.hid ((FR.out.ext X2.out).grown gr (fun e=>by have:=hbase _ e;omega))
    have HSZ3:=Lib.hid (Nat.le_trans HSZ.out (Nat.le_trans X2.out.size gr.size))
    have HX3:=Lib.hid (ext_grown (HX.out.trans X2.out) gr (fun x hx=>by have:=hbase x hx;have:=HQ.out;omega))
    clear own gr hbase X1 X2 OW BX FR HSZ HX
    go_wp2_with fail
    go_roundg (N - (k+1))
    case measure=>omega
    case rel=>exact⟨k+1,_,_,by omega,rfl,by go_num,rfl,OW3.out,by show _=_;rw [HST.out,if_neg HYK.out],BX3.out,FR3.out,HSZ3.out,HX3.out⟩
  ·have hkN:k=N:=by omega
   have hd : ¬(k:Int)<(N:Int):=by omega
   have hxt:o=argsG es root vss:=by rw [AS.out,hkN,HN.out,List.take_length]
   have HO:=Lib.hid hxt
   have hol:o.length≤4096:=by rw [hxt];have h1:=argsG_len es root vss;have:=HN.out;omega
   obtain⟨pu,cu,rfl,_⟩:=OW.out.shapeL
   have b0:=BX.out.1
   have b1:=BX.out.2
   have e0:=cell_lt b0
   have SU:=Lib.hid OW.out.slice
   obtain⟨⟨⟨z0,f0⟩,g0⟩,⟨⟨z1,f1⟩,g1⟩,⟨⟨z2,f2⟩,g2⟩⟩:=And.intro (FR.out 0 (by omega)) (And.intro (FR.out 1 (by omega)) (FR.out 2 (by omega)))
   have e5:=cell_lt f0
   have XF : ∀w' u v z,Ext wr w'→Ext w (((w'.setCell ⟨Q+1,0,none⟩ u).setCell ⟨Q+1,1,none⟩ v).setCell ⟨Q+1,2,none⟩ z):=fun w' u v z hx=>Below.setCell (Below.setCell (Below.setCell (HX.out.trans hx) (by have:=HQ.out;show w.heap.size≤Q+1;omega) _) (by have:=HQ.out;show w.heap.size≤Q+1;omega) _) (by have:=HQ.out;show w.heap.size≤Q+1;omega) _
   have HXF:=Lib.hid XF
   have HFR:=Lib.hid FR.out
   clear hxt hkN OW AS XF
   rcases(show kind=2∨kind=3∨kind=4∨(kind≠2∧kind≠3∧kind≠4)by omega)with rfl | rfl | rfl | hk9
   ·go_wp2_with fail
    refine(sum_any _ o _ SU.out (by omega)).mono ?_
    rintro e w5 ⟨rfl,x5⟩
    have HV:=Lib.hid (show aggE es 2 root vss=sumV o from by rw [HO.out];rfl)
    generalize sumV o=y at HV ⊢
    obtain⟨yk,yn,ys⟩:=y
    have X5:=Lib.hid x5
    clear f0 g0 f1 g1 f2 g2 b0 b1 e0 e5 x5
    obtain⟨⟨⟨z0,f0⟩,g0⟩,⟨⟨z1,f1⟩,g1⟩,⟨⟨z2,f2⟩,g2⟩⟩:=And.intro (HFR.out.ext X5.out 0 (by omega)) (And.intro (HFR.out.ext X5.out 1 (by omega)) (HFR.out.ext X5.out 2 (by omega)))
    have e5:=cell_lt f0
    unfold valV
    dsimp only
    go_wp2_with fail
    exact bodyPost_ret (v:= .agg #[.int .i64 yk,.int .i64 yn,.string ys]) (by simp [results,Tryz.results109,go_sem,f0,f1,f2]) rfl ⟨by rw [HV.out],HXF.out _ _ _ _ X5.out⟩
   ·by_cases hoe:o = []
    ·have hol0:((o.length:Int)==0)=true:=by simp [hoe]
     have HV:=Lib.hid (show aggE es 3 root vss=nV from by rw [HO.out]at hoe;unfold aggE;simp only [hoe,if_true];rfl)
     clear hoe
     go_wp2_with fail
     exact bodyPost_ret (v:= .agg #[.int .i64 0,.int .i64 0,.string ⟨#[]⟩]) (by simp [results,Tryz.results109,go_sem,f0,f1,f2]) rfl ⟨by rw [HV.out];rfl,HXF.out _ _ _ _ (Ext.refl _)⟩
    ·have hol0:((o.length:Int)==0)=false:=by simp [hoe]
     have HOE:=Lib.hid hoe
     have HV:=Lib.hid (show aggE es 3 root vss=pickMin o from by rw [HO.out]at hoe ⊢;unfold aggE;simp only [hoe,if_false];rfl)
     clear hoe
     go_wp2_with fail
     refine(pickMin_any _ o _ SU.out HOE.out).mono ?_
     rintro e w5 ⟨rfl,x5⟩
     generalize pickMin o=y at HV ⊢
     obtain⟨yk,yn,ys⟩:=y
     have X5:=Lib.hid x5
     clear f0 g0 f1 g1 f2 g2 b0 b1 e0 e5 x5
     obtain⟨⟨⟨z0,f0⟩,g0⟩,⟨⟨z1,f1⟩,g1⟩,⟨⟨z2,f2⟩,g2⟩⟩:=And.intro (HFR.out.ext X5.out 0 (by omega)) (And.intro (HFR.out.ext X5.out 1 (by omega)) (HFR.out.ext X5.out 2 (by omega)))
     have e5:=cell_lt f0
     unfold valV
     dsimp only
     go_wp2_with fail
     exact bodyPost_ret (v:= .agg #[.int .i64 yk,.int .i64 yn,.string ys]) (by simp [results,Tryz.results109,go_sem,f0,f1,f2]) rfl ⟨by rw [HV.out],HXF.out _ _ _ _ X5.out⟩
   ·by_cases hoe:o = []
    ·have hol0:((o.length:Int)==0)=true:=by simp [hoe]
     have HV:=Lib.hid (show aggE es 4 root vss=nV from by rw [HO.out]at hoe;unfold aggE;simp only [hoe,if_true];rfl)
     clear hoe
     go_wp2_with fail
     exact bodyPost_ret (v:= .agg #[.int .i64 0,.int .i64 0,.string ⟨#[]⟩]) (by simp [results,Tryz.results109,go_sem,f0,f1,f2]) rfl ⟨by rw [HV.out];rfl,HXF.out _ _ _ _ (Ext.refl _)⟩
    ·have hol0:((o.length:Int)==0)=false:=by simp [hoe]
     have HOE:=Lib.hid hoe
     have HV:=Lib.hid (show aggE es 4 root vss=pickMax o from by rw [HO.out]at hoe ⊢;unfold aggE;simp only [hoe,if_false];rfl)
     clear hoe
     go_wp2_with fail
     refine(pickMax_any _ o _ SU.out HOE.out).mono ?_
     rintro e w5 ⟨rfl,x5⟩
     generalize pickMax o=y at HV ⊢
     obtain⟨yk,yn,ys⟩:=y
     have X5:=Lib.hid x5
     clear f0 g0 f1 g1 f2 g2 b0 b1 e0 e5 x5
     obtain⟨⟨⟨z0,f0⟩,g0⟩,⟨⟨z1,f1⟩,g1⟩,⟨⟨z2,f2⟩,g2⟩⟩:=And.intro (HFR.out.ext X5.out 0 (by omega)) (And.intro (HFR.out.ext X5.out 1 (by omega)) (HFR.out.ext X5.out 2 (by omega)))
     have e5:=cell_lt f0
     unfold valV
     dsimp only
     go_wp2_with fail
     exact bodyPost_ret (v:= .agg #[.int .i64 yk,.int .i64 yn,.string ys]) (by simp [results,Tryz.results109,go_sem,f0,f1,f2]) rfl ⟨by rw [HV.out],HXF.out _ _ _ _ X5.out⟩
   ·have k2:(kind==2)=false:=by simp;omega
    have k3:(kind==3)=false:=by simp;omega
    have k4:(kind==4)=false:=by simp;omega
    have HV:=Lib.hid (show aggE es kind root vss=nV from by unfold aggE;rw [if_neg HK.out,if_neg hk9.1,if_neg hk9.2.1,if_neg hk9.2.2];split <;> rfl)
    clear hk9
    by_cases hoe:o = []
    ·have hol0:((o.length:Int)==0)=true:=by simp [hoe]
     clear hoe
     go_wp2_with fail
     exact bodyPost_ret (v:= .agg #[.int .i64 0,.int .i64 0,.string ⟨#[]⟩]) (by simp [results,Tryz.results109,go_sem,f0,f1,f2]) rfl ⟨by rw [HV.out];rfl,HXF.out _ _ _ _ (Ext.refl _)⟩
    ·have hol0:((o.length:Int)==0)=false:=by simp [hoe]
     clear hoe
     go_wp2_with fail
     exact bodyPost_ret (v:= .agg #[.int .i64 0,.int .i64 0,.string ⟨#[]⟩]) (by simp [results,Tryz.results109,go_sem,f0,f1,f2]) rfl ⟨by rw [HV.out];rfl,HXF.out _ _ _ _ (Ext.refl _)⟩
end Go.Proofs.YtkddkbpoefidpaaGreatDoor
