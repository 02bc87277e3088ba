/- joined texts of a proof: RefF, RefJ, HeapA, ShelfC -/
import Derived.Test.YtkddkbpoefidpaaGreatDoorKI12
import Derived.Test.YtkddkbpoefidpaaGreatDoorKI09
import Derived.Test.YtkddkbpoefidpaaGreatDoorKI04
import Derived.Test.YtkddkbpoefidpaaGreatDoorKI01
import Derived.Test.YtkddkbpoefidpaaGreatDoorKI03
import Derived.Shelf.SlSortCmp.KitK
import Derived.Sort.WalkB2
import Derived.Sort.WalkB12
import Derived.Deep.LoopGhost
import Derived.Ground.SlsfProg
import Derived.Shelf.SlSortCmp.WholeK
import Derived.Shelf.Spec.SlicesGrow
import Derived.Ground.Names8Prog
import Derived.Test.YtkddkbpoefidpaaGreatDoorProg
namespace Go.Proofs.YtkddkbpoefidpaaGreatDoor
open Go.RowKit
theorem v3_of {w:World} {b o nd cap:Nat} {D:List Val} (h:SliceOf Rep.val w.cell? (.slice (some ⟨b,o,none⟩) nd cap) D) (j:Nat) (hj:j<D.length):V3 w b (o+j*3) D[j]:=by
 obtain⟨h0,h1,h2,_⟩:=val_cells h j hj
 exact⟨h0,h1,h2⟩
theorem stepE_bad {row done:List Val} {x:ExprI} (h:legalE done.length x=false):stepE row done x=nV:=by
 unfold stepE
 rw [h]
 rfl
theorem stepE_ok {row done:List Val} {x:ExprI} (h:legalE done.length x=true):stepE row done x=applyV x ((argsE x done).getD 0 nV) ((argsE x done).getD 1 nV) row:=by
 unfold stepE
 rw [h]
 rfl
theorem legal_1 {i:Nat} {x:ExprI} (h:arityE x.op=1) (hl:legalE i x=true) : ∃ja:Nat,x.a=ja∧ja<i:=by
 have h2:=(legalE_iff i x).1 hl x.a (by rw [opsE_1 h];simp)
 exact⟨x.a.toNat,by omega,by omega⟩
theorem legal_2 {i:Nat} {x:ExprI} (h:arityE x.op=2) (hl:legalE i x=true):(∃ja:Nat,x.a=ja∧ja<i)∧ ∃jb:Nat,x.b=jb∧jb<i:=by
 have h2:=(legalE_iff i x).1 hl x.a (by rw [opsE_2 h];simp)
 have h3:=(legalE_iff i x).1 hl x.b (by rw [opsE_2 h];simp)
 exact⟨⟨x.a.toNat,by omega,by omega⟩,x.b.toNat,by omega,by omega⟩
theorem arg_take {D:List Val} {i j:Nat} (hi:i≤D.length) (hj:j<i):argE (D.take i) (j:Int)=D[j]'(by omega):=by
 unfold argE
 rw [Int.toNat_natCast,List.getD_eq_getElem?_getD,List.getElem?_take_of_lt hj,List.getElem?_eq_getElem (by omega)]
 rfl
set_option maxHeartbeats 4000000 in
theorem refStep_any (v:Value) (es:List ExprI) (i:Nat) (hi:i<es.length) (hl:es.length≤1000) (vr:Value) (row:List Val) (bd od nd cd:Nat) (D:List Val) (hnd:nd=D.length) (hD:i≤D.length) (hoD : ∀z∈D,okVal z) (w:World)
  (he:SliceOf Rep.expr w.cell? v es) (hr:SliceOf Rep.val w.cell? vr row) (hd:SliceOf Rep.val w.cell? (.slice (some ⟨bd,od,none⟩) nd cd) D) :
  Calls Tryz.prog 169 #[v,.int .i64 i,vr,.slice (some ⟨bd,od,none⟩) nd cd] w fun e w'=>e = .returned (valV (stepE row (D.take i) es[i]))∧Ext w w':=by
 have hlen:(D.take i).length=i:=by rw [List.length_take];omega
 obtain⟨x,hx⟩ : ∃x,es[i]=x:=⟨_,rfl⟩
 cases hleg:legalE i es[i]with
 |false =>
  rw [stepE_bad (by rw [hlen];exact hleg)]
  refine refEval_illegal v es i hi hl x hx ?_ hleg bd od nd cd vr w he
  rw [hx]at hleg
  by_cases c:1≤x.op∧x.op≤11
  ·exact c
  ·exfalso
   have ha:arityE x.op = -1:=by
    unfold arityE
    rw [if_neg (by omega),if_neg (by omega),if_neg (by omega)]
   rw [legalE_n i x (-1) ha]at hleg
   exact absurd hleg (by simp)
 |true =>
  rw [stepE_ok (by rw [hlen];exact hleg),hx]
  by_cases c:1≤x.op∧x.op≤11
  ·have hleg2:=hleg
   rw [hx]at hleg2
   by_cases c1:x.op=1
   ·have e:applyV x ((argsE x (D.take i)).getD 0 nV) ((argsE x (D.take i)).getD 1 nV) row=x.c:=by unfold applyV;rw [if_pos c1]
    rw [e]
    exact refEval_const v es i hi hl x hx c1 hleg bd od nd cd vr w he
   by_cases c2:x.op=2
   ·have e:applyV x ((argsE x (D.take i)).getD 0 nV) ((argsE x (D.take i)).getD 1 nV) row=colAt row x.col:=by unfold applyV;rw [if_neg c1,if_pos c2]
    rw [e]
    exact refEval_col v es i hi hl x hx c2 hleg bd od nd cd vr w he row hr
   by_cases c3:x.op=10∨x.op=11
   ·have har:arityE x.op=1:=by rcases c3 with c | c <;> (rw [c];decide)
    obtain⟨ja,ha,hja⟩:=legal_1 har hleg2
    have e0:(argsE x (D.take i)).getD 0 nV=D[ja]'(by omega):=by
     unfold argsE
     rw [opsE_1 har,ha]
     exact arg_take hD hja
    rw [e0]
    have hv:=v3_of hd ja (by omega)
    rcases c3 with c | c
    ·have e:applyV x (D[ja]'(by omega)) ((argsE x (D.take i)).getD 1 nV) row=boolV (!trueV (D[ja]'(by omega))):=by
      unfold applyV
      rw [c]
      simp
     rw [e]
     exact refEval_not v es i hi hl x hx c hleg bd od nd cd ja _ ⟨ha,by omega⟩ vr w he hv
    ·have e:applyV x (D[ja]'(by omega)) ((argsE x (D.take i)).getD 1 nV) row=boolV (decide ((D[ja]'(by omega)).kind=0)):=by
      unfold applyV
      rw [c]
      simp
     rw [e]
     exact refEval_isnull v es i hi hl x hx c hleg bd od nd cd ja _ ⟨ha,by omega⟩ vr w he hv
   ·have h7:3≤x.op∧x.op≤9:=by omega
    have har:arityE x.op=2:=by unfold arityE;rw [if_neg (by omega),if_neg (by omega),if_pos h7]
    obtain⟨⟨ja,ha,hja⟩,jb,hb,hjb⟩:=legal_2 har hleg2
    have e0:(argsE x (D.take i)).getD 0 nV=D[ja]'(by omega):=by
     unfold argsE
     rw [opsE_2 har,ha]
     exact arg_take hD hja
    have e1:(argsE x (D.take i)).getD 1 nV=D[jb]'(by omega):=by
     unfold argsE
     rw [opsE_2 har,hb]
     exact arg_take hD hjb
    rw [e0,e1]
    have hva:=v3_of hd ja (by omega)
    have hvb:=v3_of hd jb (by omega)
    have hoa:=hoD _ (List.getElem_mem (show ja<D.length by omega))
    have hob:=hoD _ (List.getElem_mem (show jb<D.length by omega))
    generalize D[ja]'(by omega)=a at hva hoa ⊢
    generalize D[jb]'(by omega)=b at hvb hob ⊢
    have h8:x.op=3∨x.op=4∨x.op=5∨x.op=6∨x.op=7∨x.op=8∨x.op=9:=by omega
    rcases h8 with c | c | c | c | c | c | c
    ·have e:applyV x a b row=arithV 3 a b:=by unfold applyV;rw [c];simp
     rw [e]
     exact refEval_add v es i hi hl x hx c hleg bd od nd cd ja a ⟨ha,by omega⟩ jb b ⟨hb,by omega⟩ vr w he hva hvb hoa hob
    ·have e:applyV x a b row=arithV 4 a b:=by unfold applyV;rw [c];simp
     rw [e]
     exact refEval_sub v es i hi hl x hx c hleg bd od nd cd ja a ⟨ha,by omega⟩ jb b ⟨hb,by omega⟩ vr w he hva hvb hoa hob
    ·have e:applyV x a b row=arithV 5 a b:=by unfold applyV;rw [c];simp
     rw [e]
     exact refEval_mul v es i hi hl x hx c hleg bd od nd cd ja a ⟨ha,by omega⟩ jb b ⟨hb,by omega⟩ vr w he hva hvb hoa hob
    ·have e:applyV x a b row=boolV (eqV a b):=by unfold applyV;rw [c];simp
     rw [e]
     exact refEval_eq v es i hi hl x hx c hleg bd od nd cd ja a ⟨ha,by omega⟩ jb b ⟨hb,by omega⟩ vr w he hva hvb
    ·have e:applyV x a b row=boolV (lessV a b):=by unfold applyV;rw [c];simp
     rw [e]
     exact refEval_less v es i hi hl x hx c hleg bd od nd cd ja a ⟨ha,by omega⟩ jb b ⟨hb,by omega⟩ vr w he hva hvb
    ·have e:applyV x a b row=boolV (trueV a&&trueV b):=by unfold applyV;rw [c];simp
     rw [e]
     exact refEval_and v es i hi hl x hx c hleg bd od nd cd ja a ⟨ha,by omega⟩ jb b ⟨hb,by omega⟩ vr w he hva hvb
    ·have e:applyV x a b row=boolV (trueV a||trueV b):=by unfold applyV;rw [c];simp
     rw [e]
     exact refEval_or v es i hi hl x hx c hleg bd od nd cd ja a ⟨ha,by omega⟩ jb b ⟨hb,by omega⟩ vr w he hva hvb
  ·have e:applyV x ((argsE x (D.take i)).getD 0 nV) ((argsE x (D.take i)).getD 1 nV) row=nV:=by
    unfold applyV
    rw [if_neg (by omega),if_neg (by omega),if_neg (by omega),if_neg (by omega),if_neg (by omega),if_neg (by omega),if_neg (by omega),if_neg (by omega),if_neg (by omega)]
   rw [e]
   exact refEval_none v es i hi hl x hx c hleg bd od nd cd vr w he
theorem vc_cells {w:World} {g:Nat} : ∀(D:List Val) (k:Nat),(∀j (hj:j<D.length),VC w g (k+j) D[j])→ ∀j u,(D.map fun x=> [Value.int .i64 x.kind,.int .i64 x.n,.string x.s]).flatten[j]?=some u→w.cell? ⟨g,k*3+j,none⟩=some u:=by
 intro D
 induction D with
 |nil=>intro k _ j u hj;simp at hj
 |cons x D ih =>
  intro k h j u hj
  have h0:=h 0 (by simp)
  rw [List.map_cons,List.flatten_cons]at hj
  simp only [List.getElem_cons_zero,Nat.add_zero]at h0
  obtain⟨a0,a1,a2⟩:=h0
  match j,hj with
  |0,hj=>simp at hj;rw [←hj];exact a0
  |1,hj=>simp at hj;rw [←hj];exact a1
  |2,hj=>simp at hj;rw [←hj];exact a2
  |j+3,hj =>
   have h2:=ih (k+1) (fun m hm=>by
    have:=h (m+1) (by simp;omega)
    simp only [List.getElem_cons_succ]at this
    rwa [show k+(m+1)=k+1+m by omega]at this) j u (by
    rw [List.getElem?_append_right (by simp)]at hj
    simpa using hj)
   rwa [show (k+1)*3+j=k*3+(j+3)by omega]at h2
theorem vc_slice {w:World} {g M cap:Nat} (hc:M≤cap) (hc2:cap≤maxLen) {D:List Val} (hD:D.length=M) (h : ∀j (hj:j<D.length),VC w g j D[j]) (ho : ∀x∈D,okVal x):SliceOf Rep.val w.cell? (.slice (some ⟨g,0,none⟩) M cap) D:=by
 refine⟨D.map fun x=> [Value.int .i64 x.kind,.int .i64 x.n,.string x.s],?_,?_⟩
 ·clear h hD
  induction D with
  |nil=>trivial
  |cons x D ih =>
   rw [List.map_cons]
   exact⟨⟨rfl,ho x (by simp)⟩,ih fun y hy=>ho y (by simp [hy])⟩
 ·rw [hD]
  refine .inr ⟨_,cap,rfl,hc,hc2,.inr ⟨g,0,rfl,fun j u hj=> ?_⟩⟩
  have:=vc_cells D 0 (fun m hm=>by rw [Nat.zero_add];exact h m hm) j u hj
  rwa [Nat.zero_mul]at this
def refD (es:List ExprI) (row:List Val) (k M:Nat):List Val:=(List.range M).map fun j=>(evalAll es row k).getD j nV
theorem refD_len (es:List ExprI) (row:List Val) (k M:Nat):(refD es row k M).length=M:=by unfold refD;simp
theorem refD_get (es:List ExprI) (row:List Val) (k M j:Nat) (h:j<(refD es row k M).length):(refD es row k M)[j]=(evalAll es row k).getD j nV:=by
 simp [refD]
theorem refD_take {es:List ExprI} {row:List Val} {k M:Nat} (h:k≤M):(refD es row k M).take k=evalAll es row k:=by
 refine List.ext_getElem? fun j=> ?_
 by_cases c:j<k
 ·rw [List.getElem?_take_of_lt c]
  unfold refD
  rw [List.getElem?_map,List.getElem?_range (by omega),List.getElem?_eq_getElem (by rw [evalAll_len];exact c)]
  show some ((evalAll es row k).getD j nV)=_
  rw [List.getD_eq_getElem?_getD,List.getElem?_eq_getElem (by rw [evalAll_len];exact c)]
  rfl
 ·rw [List.getElem?_eq_none (by rw [List.length_take];omega),List.getElem?_eq_none (by rw [evalAll_len];omega)]
set_option maxRecDepth 100000 in
set_option maxHeartbeats 8000000 in
theorem refEval_in (v:Value) (es:List ExprI) (root:Nat) (vv:Value) (vals:List Val) (w:World) (he:SliceOf Rep.expr w.cell? v es) (hr:root<es.length) (hl:es.length≤1000) (hv:SliceOf Rep.val w.cell? vv vals) :
  Calls Tryz.prog 118 #[v,.int .i64 root,vv] w fun e w'=>e = .returned (valV (evalE es root vals))∧Ext w w':=by
 obtain⟨i3,hi3,hz30,hz31,hz32⟩:=info_parts info_val3
 have HXO:=Lib.hid (expr_ok he)
 have HVO:=Lib.hid (vals_ok hv)
 obtain⟨p,cap,rfl,hc1,hc2,hp⟩:=he.form
 obtain⟨q,qc,rfl,_⟩:=hv.form
 obtain⟨bb,ob,rfl⟩:=hp (by decide) (by omega)
 obtain⟨y,hy⟩ : ∃y,y=evalE es root vals:=⟨_,rfl⟩
 rw [←hy]
 have HY:=Lib.hid hy
 obtain⟨N,hN⟩ : ∃N,N=es.length:=⟨_,rfl⟩
 have HE:=Lib.hid he
 rw [←hN]at HE hc1 ⊢
 have HV:=Lib.hid hv
 have HN:=Lib.hid hN
 have HL:=Lib.hid hl
 obtain⟨M,hM⟩ : ∃M,M=root+1:=⟨_,rfl⟩
 have HM:=Lib.hid hM
 have hMN:M≤N:=by omega
 have hM1:M≤1000:=by omega
 have em:(root:Int)+1=(M:Int):=by omega
 have hw1:IntKind.i64.wrap (M:Int)=(M:Int):=by rw [IntKind.wrap_i64];omega
 have hd0:decide ((root:Int)<0)=false:=by simp
 have hd1:decide ((N:Int)≤(root:Int))=false:=by simp;omega
 have hrM:(root:Int)<(M:Int):=by omega
 have hM0:0<M:=by omega
 clear he hv hN hl hy hM hc2 hp
 go_enter Tryz.func118,Tryz.ntmps118
 go_wp2_with (at_make;go_loud (refine wpList_make_full _ rfl _ _ 68 rfl w.heap.size 73 i3 _ 3 Tryz.underlying68 hi3 hz30 hz31 .i64 .i64 (M:Int) (M:Int) M rfl rfl rfl rfl (by rw [hz32];omega) (by unfold maxLen;omega) (by simp) ?_))
 intro w1 own1 gr1
 have hF1:=FreeN.made own1
 have hC1 : ∀j,j<M→VC w1 (w.heap.size+1) j nV:=fun j hj=>by
  obtain⟨g',cap',e1,_,_,_,_,hc⟩:=own_cells own1 hM0
  injection e1 with e1
  injection e1 with e1
  injection e1 with e1
  subst e1
  exact⟨hc (j*3) _ (made3 _ _ _ M j 0 hj (by omega)),hc (j*3+1) _ (made3 _ _ _ M j 1 hj (by omega)),hc (j*3+2) _ (made3 _ _ _ M j 2 hj (by omega))⟩
 have X1:=Lib.hid (ext_grown ((Ext.refl w).alloc _) gr1 (fun k hk=>by cases hk))
 have xz:=ext_grown (Ext.refl _) gr1 (fun k hk=>by cases hk)
 have HZ0:=Lib.hid (ZR.ext xz (g:=w.heap.size) ⟨by go_simp,by go_simp,(by go_simp;rfl),by go_simp,by go_simp,by go_simp⟩)
 clear xz
 obtain⟨g,hg⟩ : ∃g,g=w.heap.size+1:=⟨_,rfl⟩
 have hF2:FreeN w1 g (M*3):=by
  rw [hg]
  exact hF1
 rw [←hg]at hC1
 have HG:=Lib.hid hg
 have HF2:=Lib.hid hF2
 have HC2:=Lib.hid hC1
 have HX1:=Lib.hid (show Ext w w1 from X1.out)
 try rw [←hg]
 clear hF1 hF2 own1 gr1 X1 hg hC1
 go_wp2_with fail
 go_loopg [8] M (fun gk vi wr=> ∃(k:Nat),k≤M∧gk=M - k∧vi = .int .i64 k∧Hid (FreeN wr g (M*3))∧Hid (∀j,j<M→VC wr g j ((evalAll es vals k).getD j nV))∧Hid (ZR wr w.heap.size)∧Hid (Ext w wr))
 case atStart=>exact⟨0,by omega,rfl,rfl,HF2.out,HC2.out,HZ0.out,HX1.out⟩
 case round =>
  clear HF2 HX1 HZ0 HC2
  obtain⟨k,hk,rfl,rfl,HFR,HCC,HRS,hx⟩:=hrel
  by_cases hlt:k<M
  ·have hd:decide ((k:Int)≤(root:Int))=true:=by have:=HM.out;simp;omega
   have hkM:(k:Int)<(M:Int):=by omega
   have hkn:k<es.length:=by have:=HN.out;omega
   have hput : ∀j,(evalAll es vals (k+1)).getD j nV=if j=k then stepE vals (evalAll es vals k) es[k]else(evalAll es vals k).getD j nV:=fun j=>by
    rw [evalAll_put,getElem!_pos es k hkn]
   have hDO : ∀v∈evalAll es vals k,okVal v:=ok_evalAll (fun z hz=>(HXO.out z hz).2) HVO.out k (by omega)
   have hDR : ∀v∈refD es vals k M,okVal v:=fun v hv=>by
    obtain⟨j,_,rfl⟩:=List.mem_map.1 hv
    exact ok_getD hDO j
   have HDR:=Lib.hid hDR
   have HPUT:=Lib.hid hput
   have hSD:SliceOf Rep.val wr.cell? (.slice (some ⟨g,0,none⟩) M M) (refD es vals k M):=vc_slice (Nat.le_refl _) (by unfold maxLen;omega) (refD_len es vals k M) (fun j hj=>by
    have h1:=HCC.out j (by rw [refD_len]at hj;exact hj)
    rw [refD_get];exact h1) hDR
   have HSD:=Lib.hid hSD
   clear hput hDO hDR hSD
   go_wp2_with fail
   refine(refStep_any _ es k hkn HL.out _ vals g 0 M M (refD es vals k M) (refD_len es vals k M).symm (by rw [refD_len];omega) HDR.out _ (HE.out.ext hx.out.full) (HV.out.ext hx.out.full) HSD.out).mono ?_
   rintro e w3 ⟨rfl,x3⟩
   rw [refD_take hk]
   obtain⟨yy,hyy⟩ : ∃z,z=stepE vals (evalAll es vals k) es[k]:=⟨_,rfl⟩
   rw [←hyy]
   have HYY:=Lib.hid hyy.symm
   have HFR3:=Lib.hid (HFR.out.ext x3)
   have HRS3:=Lib.hid (HRS.out.ext x3)
   have HCC3:=Lib.hid (show ∀i,i<M→VC w3 g i ((evalAll es vals k).getD i nV)from fun i hi=>(HCC.out i hi).ext x3)
   have HX3:=Lib.hid (hx.out.trans x3)
   obtain⟨yk,yn,ys⟩:=yy
   obtain⟨⟨o0,p0⟩,f0⟩:=HFR3.out (k*3) (by omega)
   obtain⟨⟨o1,p1⟩,f1⟩:=HFR3.out (k*3+1) (by omega)
   obtain⟨⟨o2,p2'⟩,f2⟩:=HFR3.out (k*3+2) (by omega)
   have e3:=cell_lt p0
   have HGB:=Lib.hid (show w.heap.size≤g∧g≠w.heap.size from by have:=HG.out;omega)
   clear hyy x3 hx HFR HRS HCC
   unfold valV
   dsimp only
   go_wp2_with fail
   go_roundg (M - (k+1))
   case measure=>omega
   case rel =>
    refine⟨k+1,by omega,rfl,by go_num,((HFR3.out.set _ _).set _ _).set _ _,(fun i hi=> ?_),?_,Below.setCell (Below.setCell (Below.setCell HX3.out HGB.out.1 _) HGB.out.1 _) HGB.out.1 _⟩
    ·rw [HPUT.out,HYY.out]
     exact VC.put HFR3.out HCC3.out hlt ⟨yk,yn,ys⟩ i hi
    ·obtain⟨z0,z1,z2,u0,u1,u2⟩:=HRS3.out
     have hne:=HGB.out.2
     exact⟨cell_set (cell_set (cell_set z0 hne) hne) hne,cell_set (cell_set (cell_set z1 hne) hne) hne,cell_set (cell_set (cell_set z2 hne) hne) hne,by go_simp,by go_simp,by go_simp⟩
  ·have hkM:k=M:=by omega
   have hd:decide ((k:Int)≤(root:Int))=false:=by have:=HM.out;simp;omega
   obtain⟨s0,s1,s2⟩:=HCC.out root (by have:=HM.out;omega)
   have hyy:(evalAll es vals k).getD root nV=y:=by
    have h1:=HY.out
    have h2:=HN.out
    have h3:=HM.out
    rw [h1]
    unfold evalE
    rw [if_pos (by omega),Int.toNat_natCast,show k=root+1 by omega]
   rw [hyy]at s0 s1 s2
   obtain⟨p0,p1,p2,f0,f1,f2⟩:=HRS.out
   have e3:=cell_lt s0
   have e4:=cell_lt p0
   have HXF:=Lib.hid hx.out
   clear hkM HCC HRS HFR hx hyy
   go_wp2_with fail
   exact bodyPost_ret (v:=valV y) (by simp [results,Tryz.results118,go_sem,p0,p1,p2]) rfl ⟨rfl,Below.setCell (Below.setCell (Below.setCell HXF.out (Nat.le_refl _) _) (Nat.le_refl _) _) (Nat.le_refl _) _⟩
set_option maxRecDepth 100000 in
set_option maxHeartbeats 4000000 in
theorem refEval_any (v:Value) (es:List ExprI) (root:Int) (vv:Value) (vals:List Val) (w:World) (he:SliceOf Rep.expr w.cell? v es) (hl:es.length≤1000) (hv:SliceOf Rep.val w.cell? vv vals) :
  Calls Tryz.prog 118 #[v,.int .i64 root,vv] w fun e w'=>e = .returned (valV (evalE es root vals))∧Ext w w':=by
 by_cases h0:root<0
 ·have hy:evalE es root vals=nV:=by unfold evalE;rw [if_neg (by omega)]
  rw [hy]
  obtain⟨p,cap,rfl,_⟩:=he.form
  have hd0:decide (root<0)=true:=by simp;omega
  clear hy h0 he hv
  go_enter Tryz.func118,Tryz.ntmps118
  go_wp2_with fail
  exact bodyPost_ret (v:=valV nV) (by simp [results,Tryz.results118,go_sem,valV,nV];rfl) rfl ⟨rfl,(Ext.refl w).alloc _⟩
 ·by_cases h1:root<es.length
  ·obtain⟨r,rfl⟩ : ∃r:Nat,root=r:=⟨root.toNat,by omega⟩
   exact refEval_in v es r vv vals w he (by omega) hl hv
  ·have hy:evalE es root vals=nV:=by unfold evalE;rw [if_neg (by omega)]
   rw [hy]
   obtain⟨p,cap,rfl,_⟩:=he.form
   have hd0:decide (root<0)=false:=by simp;omega
   have hd1:decide ((es.length:Int)≤root)=true:=by simp;omega
   clear hy h0 h1 he hv
   go_enter Tryz.func118,Tryz.ntmps118
   go_wp2_with fail
   exact bodyPost_ret (v:=valV nV) (by simp [results,Tryz.results118,go_sem,valV,nV];rfl) rfl ⟨rfl,(Ext.refl w).alloc _⟩
end Go.Proofs.YtkddkbpoefidpaaGreatDoor
namespace Go.Proofs.YtkddkbpoefidpaaGreatDoor
open Go.RowKit
def refJ1 (tr:List Val→Bool) (W:Int) (B:List Row) (x:Row):List Row:=joinRow tr B x++if 0≤W then padOf W.toNat (joinRow tr B x) x else []
def refJ (tr:List Val→Bool) (W:Int) (A B:List Row):List Row:=A.flatMap (refJ1 tr W B)
theorem refJ_inner (tr:List Val→Bool) (A B:List Row):refJ tr (-1) A B=snapJoin tr A B:=by
 unfold refJ snapJoin
 refine flat_congr fun x _=> ?_
 unfold refJ1
 rw [if_neg (by decide),List.append_nil]
theorem refJ_left (tr:List Val→Bool) (W:Nat) (A B:List Row):refJ tr W A B=snapLeft tr W A B:=by
 unfold refJ snapLeft
 refine flat_congr fun x _=> ?_
 unfold refJ1
 rw [if_pos (by omega),Int.toNat_natCast]
theorem joinRow_take (tr:List Val→Bool) (B:List Row) (x:Row) (k:Nat) (h:k<B.length):joinRow tr (B.take (k+1)) x=joinRow tr (B.take k) x++if tr (x.vals++B[k].vals)=true then [pairRow x B[k]]else []:=by
 unfold joinRow
 rw [List.take_succ_eq_append_getElem h,List.map_append,List.filter_append,List.map_cons,List.map_nil,List.filter_cons,List.filter_nil]
 rfl
theorem joinRow_len (tr:List Val→Bool) (B:List Row) (x:Row):(joinRow tr B x).length≤B.length:=by
 unfold joinRow
 refine Nat.le_trans (List.length_filter_le _ _) ?_
 rw [List.length_map]
 exact Nat.le_refl _
theorem refJ1_len (tr:List Val→Bool) (W:Int) (B:List Row) (x:Row):(refJ1 tr W B x).length≤B.length+1:=by
 unfold refJ1
 rw [List.length_append]
 have h:=joinRow_len tr B x
 have h2:((if 0≤W then padOf W.toNat (joinRow tr B x) x else []):List Row).length≤1:=by
  split
  ·unfold padOf;split <;> simp
  ·simp
 omega
theorem refJ_take (tr:List Val→Bool) (W:Int) (A B:List Row) (k:Nat) (h:k<A.length):refJ tr W (A.take (k+1)) B=refJ tr W (A.take k) B++refJ1 tr W B A[k]:=by
 unfold refJ
 rw [List.take_succ_eq_append_getElem h,List.flatMap_append,List.flatMap_cons,List.flatMap_nil,List.append_nil]
theorem refJ_len (tr:List Val→Bool) (W:Int) (A B:List Row):(refJ tr W A B).length≤A.length*(B.length+1):=by
 unfold refJ
 induction A with
 |nil=>simp
 |cons x A ih =>
  rw [List.flatMap_cons,List.length_append,List.length_cons,Nat.succ_mul]
  have:=refJ1_len tr W B x
  omega
theorem refJ_split (tr:List Val→Bool) (W:Int) (A B:List Row) (k:Nat) (h:k<A.length) : ∃r,refJ tr W A B=refJ tr W (A.take k) B++refJ1 tr W B A[k]++r:=by
 refine⟨refJ tr W (A.drop (k+1)) B,?_⟩
 rw [←refJ_take tr W A B k h]
 unfold refJ
 rw [←List.flatMap_append,List.take_append_drop]
theorem joinRow_split (tr:List Val→Bool) (B:List Row) (x:Row) (k:Nat) : ∃r,joinRow tr B x=joinRow tr (B.take k) x++r:=by
 refine⟨joinRow tr (B.drop k) x,?_⟩
 unfold joinRow
 rw [←List.filter_append,←List.map_append,List.take_append_drop]
def WholeOr (most:Int) (full l:List Row):Prop:=((full.length:Int)≤most→l=full)∧(most<(full.length:Int)→most<(l.length:Int))
theorem whole_early (tr:List Val→Bool) (W most:Int) (A B:List Row) (k j:Nat) (hk:k<A.length) (hm:most<((refJ tr W (A.take k) B++joinRow tr (B.take j) A[k]).length:Int)):WholeOr most (refJ tr W A B) (refJ tr W (A.take k) B++joinRow tr (B.take j) A[k]):=by
 refine⟨fun h=> ?_,fun _=>hm⟩
 exfalso
 obtain⟨r,hr⟩:=refJ_split tr W A B k hk
 obtain⟨r2,hr2⟩:=joinRow_split tr B A[k] j
 have h2:(refJ tr W (A.take k) B++joinRow tr (B.take j) A[k]).length≤(refJ tr W A B).length:=by
  rw [hr]
  unfold refJ1
  rw [hr2]
  simp only [List.length_append]
  omega
 omega
def fitJ (l:List Row):Prop:= ∀r∈l,r.vals.length≤1000∧r.lin.length≤1000
theorem sub_newT {w1 w2:World} {T:Nat→Prop} {v:Value} (hT : ∀k,w1.heap.size≤k→T k) (hlt : ∀k,v.ownBlock=some k→k<w1.heap.size):Sub (on w2 (since w1)) (on w2 (avoid T v)) :=
 on_mono w2 fun k _ (hk:w1.heap.size≤k)=>⟨fun e=>by have:=hlt k e.symm;omega,hT k hk⟩
theorem old_allT {w w':World} {T:Nat→Prop} {v:Value} (hx:Ext w w') (hb : ∀k,v.ownBlock=some k→w.heap.size≤k):Sub (on w T) (on w' (avoid T v)):=fun p u e=>by
 obtain⟨h1,h2⟩:=on_some.1 e
 exact on_some.2 ⟨⟨fun he=>by have h3:=hb _ he.symm;have h4:=World.block_lt_of_cell? w p h2;omega,h1⟩,hx.at h2⟩
set_option maxRecDepth 100000 in
set_option maxHeartbeats 8000000 in
theorem refJoin_any (T:Nat→Prop) (va vb:Value) (A B:List Row) (ve:Value) (es:List ExprI) (pred W most:Int) (w:World) (hT : ∀k,w.heap.size≤k→T k) (ha:SliceOf Rep.row (on w T) va A) (hb:SliceOf Rep.row (on w T) vb B) (hla:A.length≤5000) (hlb:B.length≤5000) (hfa:fitJ A) (hfb:fitJ B)
  (he:SliceOf Rep.expr w.cell? ve es) (hel:es.length≤1000) (hW:W≤1000) :
  Calls Tryz.prog 70 #[va,vb,ve,.int .i64 pred,.int .i64 W,.int .i64 most] w fun e w'=> ∃v' l,e = .returned v'∧SliceOf Rep.row (on w' T) v' l∧WholeOr most (refJ (trE es pred) W A B) l∧Ext w w':=by
 have HTT:=Lib.hid hT
 clear hT
 obtain⟨i0,hi,hz0,hz1,hz2⟩:=info_parts infoRow
 obtain⟨i1,hi1,hz10,hz11,hz12⟩:=info_parts info_valC
 obtain⟨tr,htr⟩ : ∃tr,tr=trE es pred:=⟨_,rfl⟩
 rw [←htr]
 have HTR:=Lib.hid htr
 have HA:=Lib.hid ha
 have HB:=Lib.hid hb
 have HE:=Lib.hid he
 have HEL:=Lib.hid hel
 have HFA:=Lib.hid hfa
 have HFB:=Lib.hid hfb
 have HLL:=Lib.hid (And.intro hla hlb)
 obtain⟨pa,ca,rfl,_,_,hpa⟩:=ha.form
 obtain⟨pb,cb,rfl,_,_,hpb⟩:=hb.form
 obtain⟨pe,ce,rfl,_⟩:=he.form
 have HPA:=Lib.hid hpa
 have HPB:=Lib.hid hpb
 obtain⟨nA,hnA⟩ : ∃n,n=A.length:=⟨_,rfl⟩
 obtain⟨nB,hnB⟩ : ∃n,n=B.length:=⟨_,rfl⟩
 obtain⟨nE,hnE⟩ : ∃n,n=es.length:=⟨_,rfl⟩
 rw [←hnA]at HA HPA ⊢
 rw [←hnB]at HB HPB ⊢
 rw [←hnE]at HE ⊢
 have HNA:=Lib.hid hnA
 have HNB:=Lib.hid hnB
 have hnA5:nA≤5000:=by omega
 have hnB5:nB≤5000:=by omega
 clear ha hb he hla hlb hel hfa hfb hpa hpb hnA hnB hnE htr
 go_enter Tryz.func70,Tryz.ntmps70
 go_wp2_with fail
 go_loopg [13,24] nA (fun gk vo vi wr=> ∃(k:Nat) (u:Value) (o:List Row),k≤nA∧gk=nA - k∧vi = .int .i64 k∧u=vo∧Hid (OwnOf Rep.row wr T w.heap.size 70 u o)∧Hid (o=refJ tr W (A.take k) B)∧Hid (Ext w wr))
 case atStart=>exact⟨0,_,[],by omega,rfl,rfl,rfl,OwnOf.nil _ _ _ _ _,rfl,Ext.refl w⟩
 case round =>
  obtain⟨k,u,o,hk,rfl,rfl,rfl,OW,HO,X⟩:=hrel
  obtain⟨wo,rfl⟩ : ∃z,z=wr:=⟨wr,rfl⟩
  by_cases hlt:k<nA
  ·have hkl:k<A.length:=by have:=HNA.out;omega
   have hd:decide ((k:Int)<(nA:Int))=true:=by simp;omega
   obtain⟨ba,oa,rfl⟩:=HPA.out (by decide) (by omega)
   have hv:=HA.out
   rw [HNA.out]at hv
   obtain⟨ua,ub,c0,c1,g0,g1⟩:=row_at hv k hkl
   obtain⟨pxa,kxa,rfl,_⟩:=g0.form
   obtain⟨pxb,kxb,rfl,_⟩:=g1.form
   have hst:=refJ_take tr W A B k hkl
   rw [←HO.out]at hst
   have hfx:=HFA.out A[k] (List.getElem_mem hkl)
   have hearly:=whole_early tr W most A B k
   rw [←HO.out]at hearly
   have hol:o.length≤5000*5001:=by
    rw [HO.out]
    refine Nat.le_trans (refJ_len tr W _ _) ?_
    have h1:=HLL.out
    rw [List.length_take]
    exact Nat.mul_le_mul (by omega) (by omega)
   replace c0:=X.out.at (on_some.1 c0).2
   replace c1:=X.out.at (on_some.1 c1).2
   have HEARLY:=Lib.hid (fun j h=>hearly j hkl h)
   generalize A[k]=x at c0 c1 g0 g1 hst hfx HEARLY
   obtain⟨xv,xl⟩:=x
   dsimp only at c0 c1 g0 g1 hfx
   have HST:=Lib.hid hst
   have HFX:=Lib.hid hfx
   have HOL:=Lib.hid hol
   obtain⟨nxv,hnxv⟩ : ∃z,z=xv.length:=⟨_,rfl⟩
   obtain⟨nxl,hnxl⟩ : ∃z,z=xl.length:=⟨_,rfl⟩
   rw [←hnxv]at c0 g0
   rw [←hnxl]at c1 g1
   have HNXV:=Lib.hid hnxv
   have HG1W:=Lib.hid g1
   have HG0W:=Lib.hid g0
   have e0:=cell_lt c0
   clear hv g0 g1 hst hfx hol hearly hnxv hnxl
   go_wp2_with fail
   go_loopg [13,16,30] nB (fun gj vo vf vj wr=> ∃(j:Nat) (u':Value) (m:List Row) (fb:Bool),j≤nB∧gj=nB - j∧vj = .int .i64 j∧u'=vo∧vf = .bool fb∧Hid (fb = !m.isEmpty)∧Hid (∀kk,Value.ownBlock u'=some kk→kk≠wo.heap.size)∧Hid (OwnOf Rep.row wr T w.heap.size 70 u' (o++m))∧Hid (m=joinRow tr (B.take j) ⟨xv,xl⟩)∧Hid (Ext w wr)∧wr.cell? ⟨wo.heap.size,0,none⟩=some (.slice pxa nxv kxa)∧wr.cell? ⟨wo.heap.size,1,none⟩=some (.slice pxb nxl kxb))
   case atStart=>exact⟨0,_,[],false,by omega,rfl,rfl,rfl,rfl,rfl,(fun kk hkk=>Nat.ne_of_lt (OW.out.lt kk hkk).2),(show OwnOf _ _ _ _ _ _ _ from by rw [List.append_nil];exact OW.out.ext ((Ext.refl wo).alloc _)),rfl,X.out.alloc _,by go_simp,by go_simp⟩
   case round =>
    obtain⟨j,u',m,fb,hj,rfl,rfl,rfl,rfl,HFB2,HNE,OM,HM,XW,y0,y1⟩:=hrel
    have f0:=cell_lt y0
    by_cases hlt2:j<nB
    ·have hjl:j<B.length:=by have:=HNB.out;omega
     have hd2:decide ((j:Int)<(nB:Int))=true:=by simp;omega
     obtain⟨bb,ob,rfl⟩:=HPB.out (by decide) (by omega)
     have hv:=HB.out
     rw [HNB.out]at hv
     obtain⟨va,vb,d0,d1,g2,g3⟩:=row_at hv j hjl
     obtain⟨pya,kya,rfl,_⟩:=g2.form
     obtain⟨pyb,kyb,rfl,_⟩:=g3.form
     have hst2:=joinRow_take tr B ⟨xv,xl⟩ j hjl
     rw [←HM.out]at hst2
     have hfy:=HFB.out B[j] (List.getElem_mem hjl)
     have hml:m.length≤5000:=by
      rw [HM.out]
      have h1:=joinRow_len tr (B.take j) ⟨xv,xl⟩
      rw [List.length_take]at h1
      omega
     replace d0:=XW.out.at (on_some.1 d0).2
     replace d1:=XW.out.at (on_some.1 d1).2
     have G2:=Lib.hid (g2.ext ((on_sub _ _).trans XW.out.full))
     have G3:=Lib.hid (g3.ext ((on_sub _ _).trans XW.out.full))
     generalize B[j]=y at d0 d1 G2 G3 hst2 hfy
     obtain⟨yv,yl⟩:=y
     dsimp only at d0 d1 G2 G3 hfy hst2
     have HST2:=Lib.hid hst2
     have HFY:=Lib.hid hfy
     have HML:=Lib.hid hml
     obtain⟨nyv,hnyv⟩ : ∃z,z=yv.length:=⟨_,rfl⟩
     obtain⟨nyl,hnyl⟩ : ∃z,z=yl.length:=⟨_,rfl⟩
     rw [←hnyv]at d0 G2
     rw [←hnyl]at d1 G3
     have f1:=cell_lt d0
     obtain⟨pu,cu,hu,hu1,hu2,_⟩:=OM.out.slice.form
     subst hu
     obtain⟨om,hom⟩ : ∃z,z=o++m:=⟨_,rfl⟩
     rw [←hom]at OM HNE ⊢
     obtain⟨no,hno⟩ : ∃z,z=om.length:=⟨_,rfl⟩
     rw [←hno]at OM HNE ⊢
     have HNO:=Lib.hid hno
     have HOM:=Lib.hid hom
     clear hv g2 g3 hst2 hfy hml hnyv hnyl hu1 hu2 hno hom
     by_cases hmost:most<(no:Int)
     ·have hdm:decide (most<(no:Int))=true:=decide_eq_true hmost
      have HWO:=Lib.hid (show WholeOr most (refJ tr W A B) om from by
       have h1:=HEARLY.out j
       rw [←HM.out,←HOM.out]at h1
       exact h1 (by rw [←HNO.out];exact hmost))
      clear hmost
      go_wp2_with fail
      go_ret
      exact⟨_,_,rfl,(OM.out.sliceIn (fun _ _ h=>h) HTT.out).ext (((Ext.refl wr).alloc _).sub _),HWO.out,XW.out.alloc _⟩
     ·have hdm:decide (most<(no:Int))=false:=decide_eq_false hmost
      clear hmost
      go_wp2_with fail
      refine(refConcat_any _ _ _ _ xv yv xl yl _ (HG0W.out.ext ((on_sub _ _).trans (XW.out.alloc _).full)) (G2.out.ext ((Ext.refl wr).alloc _).full) (HG1W.out.ext ((on_sub _ _).trans (XW.out.alloc _).full)) (G3.out.ext ((Ext.refl wr).alloc _).full) (by have:=HFX.out;omega) (by have:=HFY.out;omega) (by have:=HFX.out;omega) (by have:=HFY.out;omega)).mono ?_
      rintro e w3 ⟨v3,l3,rfl,s3,t3,x3⟩
      have hlen3:(xv++yv).length≤2000:=by rw [List.length_append];have h1:=HFX.out;have h2:=HFY.out;omega
      obtain⟨zs,hzs⟩ : ∃z,z=xv++yv:=⟨_,rfl⟩
      rw [←hzs]at s3 hlen3
      obtain⟨ls,hls⟩ : ∃z,z=mergeL xl yl:=⟨_,rfl⟩
      rw [←hls]at t3
      obtain⟨p3,q3,rfl,_⟩:=s3.form
      obtain⟨p4,q4,rfl,_⟩:=t3.form
      obtain⟨nz,hnz⟩ : ∃z,z=zs.length:=⟨_,rfl⟩
      obtain⟨nl,hnl⟩ : ∃z,z=ls.length:=⟨_,rfl⟩
      rw [←hnz]at s3 ⊢
      rw [←hnl]at t3 ⊢
      have S3:=Lib.hid s3
      have T3:=Lib.hid t3
      have HZS:=Lib.hid hzs
      have HLS:=Lib.hid hls
      have X3:=Lib.hid (((Ext.refl wr).alloc _).trans x3)
      have z0:=X3.out.at y0
      have z1:=X3.out.at y1
      have f3:=cell_lt z0
      clear s3 t3 hzs hls hnz hnl x3 y0 y1 f0 d0 d1 f1 hlen3
      go_wp2_with fail
      refine(refEval_any _ es pred _ zs _ (HE.out.ext ((XW.out.trans X3.out).alloc _).full) HEL.out (S3.out.ext ((on_sub _ _).trans ((Ext.refl w3).alloc _).full))).mono ?_
      rintro e w4 ⟨rfl,x4⟩
      have b0:w4.cell? ⟨w3.heap.size,0,none⟩=some (.slice p3 nz q3):=x4.at (by go_simp)
      have b1:w4.cell? ⟨w3.heap.size,1,none⟩=some (.slice p4 nl q4):=x4.at (by go_simp)
      have X4:=Lib.hid (((Ext.refl w3).alloc (.cells #[.slice p3 nz q3,.slice p4 nl q4] 70)).trans x4)
      have f4:=cell_lt b0
      clear x4
      go_wp2_with fail
      refine(refTrue_any _ _).mono ?_
      rintro e w5 ⟨rfl,x5⟩
      replace b0:=x5.at b0
      replace b1:=x5.at b1
      have X5:=Lib.hid (X4.out.trans x5)
      have htv:trueV (evalE es pred zs)=tr zs:=by rw [HTR.out];rfl
      rw [htv]
      replace z0:=X5.out.at z0
      replace z1:=X5.out.at z1
      have f5:=cell_lt b0
      have f6:=cell_lt z0
      have HT:=Lib.hid (show tr (xv++yv)=tr zs from by rw [HZS.out])
      clear x5 X4 htv f4 f3
      obtain⟨tb,htb⟩ : ∃t,tr zs=t:=⟨_,rfl⟩
      rw [htb]
      have HTB:=Lib.hid htb
      clear htb
      cases tb
      ·have HM2:=Lib.hid (show m=joinRow tr (B.take (j+1)) ⟨xv,xl⟩from by rw [HST2.out,if_neg (by rw [HT.out,HTB.out];decide),List.append_nil])
       have XA:=Lib.hid (X3.out.trans X5.out)
       go_wp2_with fail
       go_roundg (nB - (j+1))
       case measure=>omega
       case rel=>exact⟨j+1,_,m,fb,by omega,rfl,by go_num,rfl,rfl,HFB2.out,HNE.out,(by show OwnOf _ _ _ _ _ _ _;rw [←HOM.out];exact OM.out.ext XA.out),HM2.out,XW.out.trans XA.out,z0,z1⟩
      ·have XA:=Lib.hid (X3.out.trans X5.out)
       have XB:=Lib.hid ((XW.out.trans XA.out).alloc (.cells #[.slice p3 nz q3,.slice p4 nl q4] 70))
       have OA:=Lib.hid (OM.out.ext (XA.out.alloc (.cells #[.slice p3 nz q3,.slice p4 nl q4] 70)))
       have B1:om.length+1≤maxLen:=by rw [HOM.out,List.length_append];have h1:=HOL.out;have h2:=HML.out;unfold maxLen;omega
       have B2:(om.length+1)*48≤140737488355328:=by rw [HOM.out,List.length_append];have h1:=HOL.out;have h2:=HML.out;omega
       have HBB:=Lib.hid (And.intro B1 B2)
       have HNY:=Lib.hid (show Rep.row.holds (on (w5.alloc (.cells #[.slice p3 nz q3,.slice p4 nl q4] 70)) (avoid T (.slice pu no cu))) [.slice p3 nz q3,.slice p4 nl q4] ⟨zs,ls⟩from by
        have hs:Sub (on w3 (since (wr.alloc (.cells #[.slice pya nyv kya,.slice pyb nyl kyb] 70)))) (on (w5.alloc (.cells #[.slice p3 nz q3,.slice p4 nl q4] 70)) (avoid T (.slice pu no cu))) :=
         ((X5.out.alloc _).sub _).trans (sub_newT (fun kk hkk=>HTT.out kk (Nat.le_trans (XW.out.alloc _).size hkk)) fun kk hkk=>Nat.lt_of_lt_of_le (OM.out.lt kk hkk).2 ((Ext.refl wr).alloc _).size)
        exact⟨_,_,rfl,S3.out.ext hs,T3.out.ext hs⟩)
       have XB0:=Lib.hid ((Ext.refl w5).alloc (.cells #[.slice p3 nz q3,.slice p4 nl q4] 70))
       clear B1 B2
       go_wp2_with (at_builtin;go_loud (refine wpList_append_one Rep.row T rfl _ _ 52 rfl w.heap.size 70 i0 _ 48 Tryz.underlying52 hi hz0 hz1 hz2 rfl (by decide) (.slice pu no cu) om rfl (by exact OA.out) ⟨w5.heap.size,0,none⟩ 1 ⟨zs,ls⟩ [.slice p3 nz q3,.slice p4 nl q4] rfl (by exact HNY.out) (by exact cells_new w5 [.slice p3 nz q3,.slice p4 nl q4] _) HBB.out.1 HBB.out.2 (by exact XB.out.size) ?_))
       intro g cap w6 own gr hat
       have HWS:=Lib.hid (Nat.lt_of_lt_of_le f6 (Nat.le_refl _))
       have X6:=Lib.hid (show Ext w w6 from XB.out.grownNew gr OM.out.base)
       have hne6 : ∀kk,(Value.slice (some ⟨g,0,none⟩) (no+1) cap).ownBlock=some kk→kk≠wo.heap.size:=fun kk hkk=>by
        injection hkk with hkk
        subst hkk
        rcases hat with h | h
        ·exact HNE.out _ h
        ·have h1:=HWS.out
         have h2:=XB0.out.size
         have h3:g≠wo.heap.size:=by rw [h];omega
         exact h3
       have u0:=cell_grown gr ((XB0.out).at z0) HNE.out
       have u1:=cell_grown gr ((XB0.out).at z1) HNE.out
       have hl6:om.length+1=no+1:=by rw [HNO.out]
       rw [hl6]at own ⊢
       have OW6:=Lib.hid own
       have HM6:=Lib.hid (show m ++ [(⟨zs,ls⟩:Row)]=joinRow tr (B.take (j+1)) ⟨xv,xl⟩from by rw [HST2.out,if_pos (by rw [HT.out,HTB.out]),HZS.out,HLS.out];rfl)
       have HNE6:=Lib.hid hne6
       clear own gr hat hne6 hl6 z0 z1 b0 b1 f5 f6
       go_wp2_with fail
       go_roundg (nB - (j+1))
       case measure=>omega
       case rel=>exact⟨j+1,_,m ++ [(⟨zs,ls⟩:Row)],true,by omega,rfl,by go_num,rfl,rfl,(by show true = !(m ++ [_]).isEmpty;simp),HNE6.out,(by show OwnOf _ _ _ _ _ _ _;rw [←List.append_assoc,←HOM.out];exact OW6.out),HM6.out,X6.out,u0,u1⟩
    ·have hjB:j=nB:=by omega
     have hd2 : ¬(j:Int)<(nB:Int):=by omega
     have HMF:=Lib.hid (show m=joinRow tr B ⟨xv,xl⟩from by have h:=HM.out;rwa [hjB,HNB.out,List.take_length]at h)
     clear hjB hlt2 hj HM
     cases fb
     ·have hm0:m = []:=List.isEmpty_iff.1 (by have:=HFB2.out;simpa using this.symm)
      subst hm0
      rw [List.append_nil]at OM
      by_cases hW0:0≤W
      ·have dW:decide (0≤W)=true:=decide_eq_true hW0
       obtain⟨wm,rfl⟩ : ∃z,z=wr:=⟨wr,rfl⟩
       have HR1:=Lib.hid (show refJ1 tr W B ⟨xv,xl⟩ = [⟨xv++List.replicate W.toNat nV,xl⟩]from by
        unfold refJ1
        rw [←HMF.out,if_pos hW0]
        rfl)
       obtain⟨nW,hnW⟩ : ∃z:Nat,W=z:=⟨W.toNat,by omega⟩
       have B1:([]:List Val).length+xv.length≤maxLen:=by rw [List.length_nil];have:=HFX.out;unfold maxLen;omega
       have B2:(([]:List Val).length+xv.length)*32≤140737488355328:=by rw [List.length_nil];have:=HFX.out;omega
       have HNW:=Lib.hid hnW
       have hnW2:nW≤1000:=by omega
       clear hW0 hnW
       go_wp2_with (at_builtin;go_loud (refine wpList_append_all Rep.val (fun _=>True) rfl _ _ 68 rfl wm.heap.size 73 i1 _ 32 Tryz.underlying68 hi1 hz10 hz11 hz12 rfl (by decide) (.slice none 0 0) [] rfl (OwnOf.nil _ _ _ _ _) (.slice pxa nxv kxa) xv rfl ((HG0W.out.ext ((on_sub _ _).trans XW.out.full)).ext (all_nil _)) B1 B2 (Nat.le_refl _) ?_))
       intro v7 w7 own7 gr7 _
       have X7:=Lib.hid (show Ext wm w7 from ext_grown (Ext.refl wm) gr7 (own_nil _))
       have O7:=Lib.hid own7
       obtain⟨p7,q7,rfl,_⟩:=own7.slice.form
       have Y0:=Lib.hid y0
       have Y1:=Lib.hid y1
       have y2:=X7.out.at y0
       have y3:=X7.out.at y1
       have f2:=cell_lt y2
       obtain⟨n7,hn7⟩ : ∃z,z=xv.length:=⟨_,rfl⟩
       rw [←hn7]at O7 ⊢
       have HN7:=Lib.hid hn7
       clear own7 gr7 B1 B2 hn7 y0 y1 f0
       go_wp2_with fail
       go_loopg [20,21] nW (fun gp vv vi wr=> ∃(i:Nat) (v8:Value),i≤nW∧gp=nW - i∧vi = .int .i64 i∧v8=vv∧Hid (OwnOf Rep.val wr (fun _=>True) wm.heap.size 73 v8 (xv++List.replicate i nV))∧Hid (Ext wm wr))
       case atStart=>exact⟨0,_,by omega,rfl,rfl,rfl,(by show OwnOf _ _ _ _ _ _ _;rw [List.replicate_zero,List.append_nil];exact O7.out),X7.out⟩
       case round =>
        obtain⟨i,v8,hi8,rfl,rfl,rfl,O8,X8⟩:=hrel
        by_cases hi3:i<nW
        ·have hd3:decide ((i:Int)<W)=true:=by rw [HNW.out];simp;omega
         obtain⟨p8,q8,hv8,_⟩:=O8.out.slice.form
         subst hv8
         obtain⟨n8,hn8⟩ : ∃z,z=(xv++List.replicate i nV).length:=⟨_,rfl⟩
         have hn8b:n8≤2000:=by rw [hn8,List.length_append,List.length_replicate];have:=HFX.out;omega
         obtain⟨ps,hps⟩ : ∃z,z=xv++List.replicate i nV:=⟨_,rfl⟩
         rw [←hps]at O8 hn8 ⊢
         rw [←hn8]at O8 ⊢
         have HN8:=Lib.hid hn8
         have HPS:=Lib.hid hps
         have OA:=Lib.hid (O8.out.ext ((Ext.refl wr).alloc (.cells #[.int .i64 0,.int .i64 0,.string ByteArray.empty] 73)))
         have B1:ps.length+1≤maxLen:=by rw [←hn8];unfold maxLen;omega
         have B2:(ps.length+1)*32≤140737488355328:=by rw [←hn8];omega
         have XB:=Lib.hid (X8.out.alloc (.cells #[.int .i64 0,.int .i64 0,.string ByteArray.empty] 73))
         clear hn8 hps
         go_wp2_with (at_builtin;go_loud (refine wpList_append_one Rep.val (fun _=>True) rfl _ _ 68 rfl wm.heap.size 73 i1 _ 32 Tryz.underlying68 hi1 hz10 hz11 hz12 rfl (by decide) (.slice p8 n8 q8) ps rfl (by exact OA.out) ⟨wr.heap.size,0,none⟩ 1 nV [.int .i64 0,.int .i64 0,.string ByteArray.empty] rfl ⟨rfl,by decide,by decide,by decide⟩ (by exact cells_new wr [.int .i64 0,.int .i64 0,.string ByteArray.empty] _) B1 B2 (by exact XB.out.size) ?_))
         intro g9 cap9 w9 own9 gr9 _
         have X9:=Lib.hid (show Ext wm w9 from ext_grown XB.out gr9 fun kk hkk=>OA.out.base kk hkk)
         have O9:=Lib.hid (show OwnOf Rep.val w9 (fun _=>True) wm.heap.size 73 (.slice (some ⟨g9,0,none⟩) (n8+1) cap9) (xv++List.replicate (i+1) nV)from by
           rw [List.replicate_succ',←List.append_assoc,←HPS.out,HN8.out]
           exact own9)
         have hl9:ps.length+1=n8+1:=by rw [HN8.out]
         rw [hl9]
         clear own9 gr9 hl9 B1 B2
         go_wp2_with fail
         go_roundg (nW - (i+1))
         case measure=>omega
         case rel=>exact⟨i+1,_,by omega,rfl,by go_num,rfl,O9.out,X9.out⟩
        ·have hiW:i=nW:=by omega
         have hd3 : ¬(i:Int)<W:=by rw [HNW.out];omega
         have y4:=X8.out.at (show wm.cell? ⟨wo.heap.size,0,none⟩=some (.slice pxa nxv kxa)from Y0.out)
         have y5:=X8.out.at (show wm.cell? ⟨wo.heap.size,1,none⟩=some (.slice pxb nxl kxb)from Y1.out)
         have f8:=cell_lt y4
         obtain⟨p8,q8,hv8,_⟩:=O8.out.slice.form
         subst hv8
         obtain⟨ps,hps⟩ : ∃z,z=xv++List.replicate i nV:=⟨_,rfl⟩
         rw [←hps]at O8 ⊢
         obtain⟨n8,hn8⟩ : ∃z,z=ps.length:=⟨_,rfl⟩
         rw [←hn8]at O8 ⊢
         have HPS:=Lib.hid (show (⟨ps,xl⟩:Row)=⟨xv++List.replicate W.toNat nV,xl⟩from by rw [hps,hiW,HNW.out,Int.toNat_natCast])
         obtain⟨pu,cu,hu,_⟩:=OM.out.slice.form
         subst hu
         have OB:=Lib.hid (OM.out.ext (X8.out.alloc (.cells #[.slice p8 n8 q8,.slice pxb nxl kxb] 70)))
         have XB:=Lib.hid ((XW.out.trans X8.out).alloc (.cells #[.slice p8 n8 q8,.slice pxb nxl kxb] 70))
         have B1:o.length+1≤maxLen:=by have h1:=HOL.out;unfold maxLen;omega
         have B2:(o.length+1)*48≤140737488355328:=by have h1:=HOL.out;omega
         have HNY:=Lib.hid (show Rep.row.holds (on (wr.alloc (.cells #[.slice p8 n8 q8,.slice pxb nxl kxb] 70)) (avoid T (.slice pu o.length cu))) [.slice p8 n8 q8,.slice pxb nxl kxb] ⟨ps,xl⟩from by
           have hs:Sub (on wr (since wm)) (on (wr.alloc (.cells #[.slice p8 n8 q8,.slice pxb nxl kxb] 70)) (avoid T (.slice pu o.length cu))) :=
            (((Ext.refl wr).alloc _).sub _).trans (sub_newT (fun kk hkk=>HTT.out kk (Nat.le_trans XW.out.size hkk)) fun kk hkk=>(OM.out.lt kk hkk).2)
           exact⟨_,_,rfl,(O8.out.fresh flat_valC).ext hs,HG1W.out.ext (old_allT XB.out fun kk hkk=>OB.out.base kk hkk)⟩)
         clear hps hn8 hiW y2 y3 f2
         go_wp2_with (at_builtin;go_loud (refine wpList_append_one Rep.row T rfl _ _ 52 rfl w.heap.size 70 i0 _ 48 Tryz.underlying52 hi hz0 hz1 hz2 rfl (by decide) (.slice pu o.length cu) o rfl (by exact OB.out) ⟨wr.heap.size,0,none⟩ 1 ⟨ps,xl⟩ [.slice p8 n8 q8,.slice pxb nxl kxb] rfl (by exact HNY.out) (by exact cells_new wr [.slice p8 n8 q8,.slice pxb nxl kxb] _) B1 B2 (by exact XB.out.size) ?_))
         intro g cap w6 own gr _
         have X6:=Lib.hid (show Ext w w6 from XB.out.grownNew gr OM.out.base)
         have OW6:=Lib.hid own
         have HO6:=Lib.hid (show o ++ [(⟨ps,xl⟩:Row)]=refJ tr W (A.take (k+1)) B from by rw [HST.out,HR1.out,HPS.out])
         clear own gr B1 B2
         go_wp2_with fail
         go_roundg (nA - (k+1))
         case measure=>omega
         case rel=>exact⟨k+1,_,o ++ [(⟨ps,xl⟩:Row)],by omega,rfl,by go_num,rfl,OW6.out,HO6.out,X6.out⟩
      ·have dW:decide (0≤W)=false:=decide_eq_false hW0
       have HO6:=Lib.hid (show o=refJ tr W (A.take (k+1)) B from by
        rw [HST.out]
        unfold refJ1
        rw [←HMF.out,if_neg hW0,List.append_nil,List.append_nil])
       clear hW0
       go_wp2_with fail
       go_roundg (nA - (k+1))
       case measure=>omega
       case rel=>exact⟨k+1,_,o,by omega,rfl,by go_num,rfl,OM.out,HO6.out,XW.out⟩
     ·have HO6:=Lib.hid (show o++m=refJ tr W (A.take (k+1)) B from by
       rw [HST.out]
       unfold refJ1
       rw [←HMF.out]
       have hz:padOf W.toNat m (⟨xv,xl⟩:Row) = []:=by
        unfold padOf
        rw [if_neg (by have:=HFB2.out;simpa using this.symm)]
       rw [hz]
       split <;> rw [List.append_nil])
      go_wp2_with fail
      go_roundg (nA - (k+1))
      case measure=>omega
      case rel=>exact⟨k+1,_,o++m,by omega,rfl,by go_num,rfl,OM.out,HO6.out,XW.out⟩
  ·have hkA:k=nA:=by omega
   have hd : ¬(k:Int)<(nA:Int):=by omega
   have HF:=Lib.hid (show o=refJ tr W A B from by have h:=HO.out;rwa [hkA,HNA.out,List.take_length]at h)
   clear hkA
   go_wp2_with fail
   go_ret
   exact⟨_,rfl,o,OW.out.sliceIn (fun _ _ h=>h) HTT.out,⟨fun _=>HF.out,fun h=>by rw [HF.out];exact h⟩,X.out⟩
end Go.Proofs.YtkddkbpoefidpaaGreatDoor
namespace Go.Proofs.YtkddkbpoefidpaaGreatDoor
open Go.RowKit Go.Shelf Go.Sort
instance:Inhabited Ev:=⟨⟨false,0,0,0⟩⟩
def actEnc (x:Ev):List Value:= [.int .i64 x.idx,.int .i64 x.to_]
def okE (x:Ev):Prop:=x.idx≤1048576∧ -9223372036854775808≤x.to_∧x.to_≤9223372036854775807
def Rep.act:Rep Ev where
 size:=2
 holds _ cs x:=cs=actEnc x∧okE x
 len:=by rintro w cs x ⟨rfl,_⟩;rfl
 ext:=by rintro w w' cs x h _;exact h
 one:=by rintro w cs x ⟨rfl,_⟩;simp [actEnc,Value.oneCell']
theorem flat_act:Rep.act.flat:=fun _ _ _ _ h=>h
theorem act_len (x:Ev):(actEnc x).length=2:=rfl
theorem act_one (x:Ev) : ∀v∈actEnc x,v.oneCell'=true:=by simp [actEnc,Value.oneCell']
section
variable {α:Type} {R:Rep α} {enc:α→List Value} {ok:α→Prop}
theorem css_enc (hR : ∀h cs x,R.holds h cs x↔cs=enc x∧ok x) {h:View} {css:List (List Value)} {xs:List α} (k:RepAll R h css xs):css=xs.map enc∧ ∀x∈xs,ok x:=by
 induction xs generalizing css with
 |nil =>
  cases css with
  |nil=>simp
  |cons c css=>exact k.elim
 |cons x xs ih =>
  cases css with
  |nil=>exact k.elim
  |cons c css =>
   obtain⟨h1,h2⟩:=ih k.2
   obtain⟨h3,h4⟩:=(hR _ _ _).1 k.1
   exact⟨by rw [h3,h1];rfl,by simpa using ⟨h4,h2⟩⟩
theorem enc_css (hR : ∀h cs x,R.holds h cs x↔cs=enc x∧ok x) {h:View} {xs:List α} (k : ∀x∈xs,ok x):RepAll R h (xs.map enc) xs:=by
 have:=repAll_map R h xs enc id (fun x hx=>(hR _ _ _).2 ⟨rfl,k x hx⟩)
 simpa using this
variable [Inhabited α]
theorem own_split (hR : ∀h cs x,R.holds h cs x↔cs=enc x∧ok x) {w:World} {S:Nat→Prop} {base:Nat} {e:TypeId} {v:Value} {xs:List α} (hown:OwnOf R w S base e v xs) (hn:0<xs.length) :
  ∃g cap cur,v = .slice (some ⟨g,0,none⟩) xs.length cap∧base≤g∧w.heap[g]?=some (.cells cur e (0,0))∧xs.length≤cap∧cap≤maxLen∧cur.size=cap*R.size∧HoldsK enc R.size w g 0 xs.toArray∧ ∀x∈xs,ok x:=by
 obtain⟨css,h1,h2⟩:=hown
 obtain⟨rfl,hok⟩:=css_enc hR h1
 obtain⟨h2l,h2⟩:=h2
 rcases h2 with ⟨_,h0⟩ | ⟨gB,cap,cur,rfl,hb,hh,hc1,hc2,hsz,htk⟩
 ·omega
 refine⟨gB,cap,cur,rfl,hb,hh,hc1,hc2,hsz,?_,hok⟩
 have hel : ∀x∈xs,(enc x).length=R.size:=fun x hx=>R.len ((hR w.cell? _ _).2 ⟨rfl,hok x hx⟩)
 have hflat : ∀j,j<xs.length*R.size→((xs.map enc).flatten)[j]?=some (flatK enc R.size xs.toArray)[j]! := by
  intro j hj
  have hk0:0<R.size:=by
   rcases Nat.eq_zero_or_pos R.size with h | h
   ·rw [h]at hj;simp at hj
   ·exact h
  have hdiv:j / R.size<xs.length:=by rw [Nat.div_lt_iff_lt_mul hk0];exact hj
  have hmod:=Nat.mod_lt j hk0
  rw [get_flatK _ _ _ _ (by simpa using hj)]
  rw [getElem!_pos xs.toArray _ (by simpa using hdiv)]
  have key : ∀(l:List α) (i r:Nat) (x:α),(∀y∈l,(enc y).length=R.size)→l[i]?=some x→r<R.size→(l.map enc).flatten[i*R.size+r]?=some ((enc x)[r]!):=by
   intro l
   induction l with
   |nil=>intro i r x _ h;simp at h
   |cons y l ih =>
    intro i r x hl h hr
    have hy:=hl y (by simp)
    cases i with
    |zero =>
     simp at h
     subst h
     rw [List.map_cons,List.flatten_cons,Nat.zero_mul,Nat.zero_add,List.getElem?_append_left (by rw [hy];exact hr)]
     rw [getElem!_pos _ r (by rw [hy];exact hr),List.getElem?_eq_getElem]
    |succ i =>
     rw [List.map_cons,List.flatten_cons,List.getElem?_append_right (by rw [hy,Nat.succ_mul];omega),hy]
     rw [show (i+1)*R.size+r - R.size=i*R.size+r from by rw [Nat.succ_mul];omega]
     exact ih i r x (fun z hz=>hl z (by simp [hz])) (by simpa using h) hr
  have:=key xs (j / R.size) (j % R.size) (xs[j / R.size]) hel (List.getElem?_eq_getElem hdiv) hmod
  rw [show j / R.size*R.size+j % R.size=j from by rw [Nat.mul_comm];exact Nat.div_add_mod j R.size]at this
  rw [this]
  simp
 intro j hj
 have hj':j<xs.length*R.size:=by simpa using hj
 constructor
 ·have hu:=hflat j hj'
  rw [←htk,List.getElem?_take,if_pos hj']at hu
  rw [Nat.zero_add,cell_of_row w gB j cur e (0,0) hh]
  simpa using hu
 ·simp [World.frozen?,hh]
theorem own_back (hR : ∀h cs x,R.holds h cs x↔cs=enc x∧ok x) (hel : ∀x,(enc x).length=R.size) {w:World} {S:Nat→Prop} {base:Nat} {e:TypeId} {g cap:Nat} {cur:Array Value} {n m:Nat} {d:Array α} {os:Array Obj} (hb:base≤g) (hh:w.heap[g]?=some (.cells cur e (0,0))) (hc1:n≤cap) (hc2:cap≤maxLen) (hsz:cur.size=cap*R.size)
  (hd:d.size=n) (hok : ∀x∈d.toList,ok x):OwnOf R (sortWorldK enc R.size w g 0 m d os) S base e (.slice (some ⟨g,0,none⟩) n cap) d.toList:=by
 subst hd
 refine⟨d.toList.map enc,enc_css hR hok,?_,.inr ⟨g,cap,putCells id 0 (flatK enc R.size d) cur,by simp,hb,sortWorld_row enc R.size w g 0 m d os cur e (0,0) hh,by simpa using hc1,hc2,by simp [putCells,hsz],?_⟩⟩
 ·rw [←flatK_toList enc R.size hel];simp
 ·rw [←flatK_toList enc R.size hel]
  apply List.ext_getElem?
  intro j
  rw [List.getElem?_take]
  by_cases hj:j<d.size*R.size
  ·have hjc:j<cur.size:=by rw [hsz];exact Nat.lt_of_lt_of_le hj (Nat.mul_le_mul_right _ hc1)
   simp [putCells,hjc,hj]
  ·rw [if_neg (by simpa using hj),List.getElem?_eq_none (by simpa using Nat.le_of_not_lt hj)]
end
theorem act_iff : ∀h cs x,Rep.act.holds h cs x↔cs=actEnc x∧okE x:=fun _ _ _=>Iff.rfl
theorem act_cell {w:World} {g:Nat} {d:Array Ev} (h:HoldsK actEnc 2 w g 0 d) (i:Nat) (hi:i<d.size) :
  w.cell? ⟨g,i*2,none⟩=some (.int .i64 d[i]!.idx)∧w.cell? ⟨g,i*2+1,none⟩=some (.int .i64 d[i]!.to_):=by
 have g0:=(h (i*2) (by simp;omega)).1
 have g1:=(h (i*2+1) (by simp;omega)).1
 rw [Nat.zero_add,get_flatK _ _ _ _ (by omega)]at g0 g1
 rw [show i*2 / 2=i by omega,show i*2 % 2=0 by omega]at g0
 rw [show (i*2+1) / 2=i by omega,show (i*2+1) % 2=1 by omega]at g1
 exact⟨g0,g1⟩
def ltAct (x y:Ev):Bool:=decide (x.to_<y.to_)
theorem swo_act:SWO ltAct where
 irrefl x:=by simp [ltAct]
 trans x y z:=by simp only [ltAct,decide_eq_true_eq];omega
 ntrans x y z:=by simp only [ltAct,decide_eq_false_iff_not];omega
theorem mixedOrd:Tryz.prog.follows Departure.mixedOrders=true:=by kernel_rfl
theorem len_act (p:Option Addr) (n cap:Nat) (w:World):Calls Tryz.prog 245 #[.slice p n cap] w fun e w'=>e = .returned (.int .i64 n)∧w=w':=by
 go_enter Tryz.func245,Tryz.ntmps245
 go_wp2_with fail
 go_ret
 exact⟨rfl,rfl⟩
set_option maxHeartbeats 1000000 in
theorem less_act (g n cap:Nat) (d:Array Ev) (i j:Nat) (w:World) (hH:HoldsK actEnc 2 w g 0 d) (hn:d.size=n) (hi:i<d.size) (hj:j<d.size) :
  Calls Tryz.prog 357 #[.slice (some ⟨g,0,none⟩) n cap,.int .i64 i,.int .i64 j] w fun e w'=>e = .returned (.bool (ltAct d[i]! d[j]!))∧Gro w w':=by
 subst hn
 obtain⟨_,ci⟩:=act_cell hH i hi
 obtain⟨_,cj⟩:=act_cell hH j hj
 have hiz:(i:Int)<(d.size:Int):=by omega
 have hjz:(j:Int)<(d.size:Int):=by omega
 clear hH
 unfold ltAct
 generalize d[i]!.to_=ti at ci ⊢
 generalize d[j]!.to_=tj at cj ⊢
 have mixed:=mixedOrd
 go_enter Tryz.func357,Tryz.ntmps357
 go_wp2_with fail
 go_big_region_o
 all_goals go_wp2_with fail
 all_goals go_ret
 all_goals exact⟨rfl,(Gro.refl w).drew⟩
theorem act_free {w:World} {g:Nat} {d:Array Ev} (h:HoldsK actEnc 2 w g 0 d) (i:Nat) (hi:i<d.size) :
  w.frozen? ⟨g,i*2,none⟩=false∧w.frozen? ⟨g,i*2+1,none⟩=false:=by
 have g0:=(h (i*2) (by simp;omega)).2
 have g1:=(h (i*2+1) (by simp;omega)).2
 rw [Nat.zero_add]at g0 g1
 exact⟨g0,g1⟩
set_option maxHeartbeats 4000000 in
theorem swap_act (g n cap:Nat) (d0 d:Array Ev) (i j:Nat) (w0 w:World) (R:RowK actEnc 2 w0 g 0 d0) (hs:d.size=d0.size) (hn:d.size=n) (S:SWK actEnc 2 w0 g 0 d w) (hi:i<d.size) (hj:j<d.size) :
  Calls Tryz.prog 358 #[.slice (some ⟨g,0,none⟩) n cap,.int .i64 i,.int .i64 j] w fun e w'=>e = .returned (.tuple #[])∧SWK actEnc 2 w0 g 0 (swp d i j) w':=by
 subst hn
 have mixed:=mixedOrd
 have hiz:(i:Int)<(d.size:Int):=by omega
 have hjz:(j:Int)<(d.size:Int):=by omega
 have S2:Aside (SWK actEnc 2 w0 g 0 (swp d i j) ((w.drew.setCells g (0+i*2) (actEnc d[j]!)).setCells g (0+j*2) (actEnc d[i]!))):=S.swapped R i j hi hj
 have hH:=S.holds R.hblk R.hH hs
 obtain⟨ci0,ci1⟩:=act_cell hH i hi
 obtain⟨cj0,cj1⟩:=act_cell hH j hj
 obtain⟨fi0,fi1⟩:=act_free hH i hi
 obtain⟨fj0,fj1⟩:=act_free hH j hj
 simp only [actEnc,World.setCells,Nat.zero_add]at S2
 clear S hH
 by_cases hij:i=j
 ·subst hij
  clear cj0 cj1 fj0 fj1 hjz hj
  generalize d[i]!.to_=ti at S2 ci1
  generalize d[i]!.idx=ni at S2 ci0
  go_enter Tryz.func358,Tryz.ntmps358
  go_wp2_with fail
  go_big_region_o
  all_goals go_wp2_with fail
  all_goals go_end0
  all_goals exact⟨rfl,S2.out⟩
 ·generalize d[i]!.to_=ti at S2 ci1
  generalize d[j]!.to_=tj at S2 cj1
  generalize d[i]!.idx=ni at S2 ci0
  generalize d[j]!.idx=nj at S2 cj0
  have e1 : ¬i*2=j*2:=by omega
  have e2 : ¬i*2+1=j*2:=by omega
  have e3 : ¬i*2=j*2+1:=by omega
  have e4 : ¬i*2+1=j*2+1:=by omega
  go_enter Tryz.func358,Tryz.ntmps358
  go_wp2_with fail
  go_big_region_o
  all_goals go_wp2_with fail
  all_goals go_end0
  all_goals exact⟨rfl,S2.out⟩
end Go.Proofs.YtkddkbpoefidpaaGreatDoor
namespace Go.Proofs
open Go.Shelf
def Tryz.insEv_ren:Go.Shelf.Ren:=⟨fun | 20=>287 | n=>n,fun | 24=>246 | 22=>243 | 3=>3 | 25=>249 | 4=>4 | 0=>0 | n=>n,fun | n=>n⟩
theorem Tryz.insEv:Go.Proofs.SlLaysF0.n20 Tryz.prog Tryz.insEv_ren:= {
 mixed:=by kernel_rfl
 f20:=⟨Tryz.f287.name,by decide,Tryz.func287.trans (congrArg some (by kernel_rfl))⟩
 t0:=Tryz.underlying0
 a0:=Tryz.isAgg0
 z0:=Tryz.sizeOf0
 v0:=Tryz.zeroValue0
 t3:=Tryz.underlying3
 a3:=Tryz.isAgg3
 z3:=Tryz.sizeOf3
 v3:=Tryz.zeroValue3
 t4:=Tryz.underlying4
 a4:=Tryz.isAgg4
 z4:=Tryz.sizeOf4
 v4:=Tryz.zeroValue4
 t22:=Tryz.underlying243
 a22:=Tryz.isAgg243
 z22:=Tryz.sizeOf243
 v22:=Tryz.zeroValue243
 t25:=Tryz.underlying249
 a25:=Tryz.isAgg249
 z25:=Tryz.sizeOf249
 v25:=Tryz.zeroValue249 }
def Tryz.sortPairs_ren:Go.Shelf.Ren:=⟨fun | 6=>180 | 15=>148 | 14=>248 | 28=>212 | 29=>213 | 20=>290 | 21=>291 | 22=>292 | 23=>293 | 24=>294 | 25=>295 | 26=>296 | 27=>297 | 46=>324 | 47=>264 | 48=>265 | 49=>325 | 50=>326 | 57=>334 | n=>n,fun | 22=>194 | 24=>197 | 25=>261 | 3=>3 | 39=>221 | 0=>0 | 53=>289 | 55=>291 | 4=>4 | 46=>283 | 45=>282 | 50=>266 | 5=>5 | 9=>9 | 66=>339 | 70=>343 | 76=>382 | 77=>274 | n=>n,fun | n=>n⟩
theorem Tryz.sortPairs:Go.Proofs.SlLaysF0.n6 Tryz.prog Tryz.sortPairs_ren:= {
 mixed:=by kernel_rfl
 f6:=⟨Tryz.f180.name,by decide,Tryz.func180.trans (congrArg some (by kernel_rfl))⟩
 f14:=⟨Tryz.f248.name,by decide,Tryz.func248.trans (congrArg some (by kernel_rfl))⟩
 f15:=Tryz.func148.trans (congrArg some (by kernel_rfl))
 f20:=⟨Tryz.f290.name,by decide,Tryz.func290.trans (congrArg some (by kernel_rfl))⟩
 f21:=⟨Tryz.f291.name,by decide,Tryz.func291.trans (congrArg some (by kernel_rfl))⟩
 f22:=⟨Tryz.f292.name,by decide,Tryz.func292.trans (congrArg some (by kernel_rfl))⟩
 f23:=⟨Tryz.f293.name,by decide,Tryz.func293.trans (congrArg some (by kernel_rfl))⟩
 f24:=⟨Tryz.f294.name,by decide,Tryz.func294.trans (congrArg some (by kernel_rfl))⟩
 f25:=⟨Tryz.f295.name,by decide,Tryz.func295.trans (congrArg some (by kernel_rfl))⟩
 f26:=⟨Tryz.f296.name,by decide,Tryz.func296.trans (congrArg some (by kernel_rfl))⟩
 f27:=⟨Tryz.f297.name,by decide,Tryz.func297.trans (congrArg some (by kernel_rfl))⟩
 f28:=Tryz.func212.trans (congrArg some (by kernel_rfl))
 f29:=Tryz.func213.trans (congrArg some (by kernel_rfl))
 f46:=⟨Tryz.f324.name,by decide,Tryz.func324.trans (congrArg some (by kernel_rfl))⟩
 f47:=Tryz.func264.trans (congrArg some (by kernel_rfl))
 f48:=Tryz.func265.trans (congrArg some (by kernel_rfl))
 f49:=⟨Tryz.f325.name,by decide,Tryz.func325.trans (congrArg some (by kernel_rfl))⟩
 f50:=⟨Tryz.f326.name,by decide,Tryz.func326.trans (congrArg some (by kernel_rfl))⟩
 f57:=⟨Tryz.f334.name,by decide,Tryz.func334.trans (congrArg some (by kernel_rfl))⟩
 t0:=Tryz.underlying0
 a0:=Tryz.isAgg0
 z0:=Tryz.sizeOf0
 v0:=Tryz.zeroValue0
 t3:=Tryz.underlying3
 a3:=Tryz.isAgg3
 z3:=Tryz.sizeOf3
 v3:=Tryz.zeroValue3
 t4:=Tryz.underlying4
 a4:=Tryz.isAgg4
 z4:=Tryz.sizeOf4
 v4:=Tryz.zeroValue4
 t5:=Tryz.underlying5
 a5:=Tryz.isAgg5
 z5:=Tryz.sizeOf5
 v5:=Tryz.zeroValue5
 t9:=Tryz.underlying9
 a9:=Tryz.isAgg9
 z9:=Tryz.sizeOf9
 v9:=Tryz.zeroValue9
 t22:=Tryz.underlying194
 a22:=Tryz.isAgg194
 z22:=Tryz.sizeOf194
 v22:=Tryz.zeroValue194
 t25:=Tryz.underlying261
 a25:=Tryz.isAgg261
 z25:=Tryz.sizeOf261
 v25:=Tryz.zeroValue261
 t39:=Tryz.underlying221
 a39:=Tryz.isAgg221
 z39:=Tryz.sizeOf221
 v39:=Tryz.zeroValue221
 t45:=Tryz.underlying282
 a45:=Tryz.isAgg282
 z45:=Tryz.sizeOf282
 v45:=Tryz.zeroValue282
 t46:=Tryz.underlying283
 a46:=Tryz.isAgg283
 z46:=Tryz.sizeOf283
 v46:=Tryz.zeroValue283
 t50:=Tryz.underlying266
 a50:=Tryz.isAgg266
 z50:=Tryz.sizeOf266
 v50:=Tryz.zeroValue266
 t53:=Tryz.underlying289
 a53:=Tryz.isAgg289
 z53:=Tryz.sizeOf289
 v53:=Tryz.zeroValue289
 t55:=Tryz.underlying291
 a55:=Tryz.isAgg291
 z55:=Tryz.sizeOf291
 v55:=Tryz.zeroValue291
 t66:=Tryz.underlying339
 a66:=Tryz.isAgg339
 z66:=Tryz.sizeOf339
 v66:=Tryz.zeroValue339
 t70:=Tryz.underlying343
 a70:=Tryz.isAgg343
 z70:=Tryz.sizeOf343
 v70:=Tryz.zeroValue343
 t76:=Tryz.underlying382
 a76:=Tryz.isAgg382
 z76:=Tryz.sizeOf382
 v76:=Tryz.zeroValue382
 t77:=Tryz.underlying274
 a77:=Tryz.isAgg274
 z77:=Tryz.sizeOf274
 v77:=Tryz.zeroValue274 }
def Tryz.sortPers_ren:Go.Shelf.Ren:=⟨fun | 6=>185 | 15=>148 | 14=>252 | 28=>212 | 29=>213 | 20=>299 | 21=>300 | 22=>301 | 23=>302 | 24=>303 | 25=>304 | 26=>305 | 27=>306 | 46=>327 | 47=>264 | 48=>265 | 49=>328 | 50=>329 | 57=>335 | n=>n,fun | 22=>129 | 24=>94 | 25=>269 | 3=>3 | 39=>221 | 0=>0 | 53=>289 | 55=>291 | 4=>4 | 46=>283 | 45=>282 | 50=>266 | 5=>5 | 9=>9 | 66=>339 | 70=>343 | 76=>382 | 77=>274 | n=>n,fun | n=>n⟩
theorem Tryz.sortPers:Go.Proofs.SlLaysF0.n6 Tryz.prog Tryz.sortPers_ren:= {
 mixed:=by kernel_rfl
 f6:=⟨Tryz.f185.name,by decide,Tryz.func185.trans (congrArg some (by kernel_rfl))⟩
 f14:=⟨Tryz.f252.name,by decide,Tryz.func252.trans (congrArg some (by kernel_rfl))⟩
 f15:=Tryz.func148.trans (congrArg some (by kernel_rfl))
 f20:=⟨Tryz.f299.name,by decide,Tryz.func299.trans (congrArg some (by kernel_rfl))⟩
 f21:=⟨Tryz.f300.name,by decide,Tryz.func300.trans (congrArg some (by kernel_rfl))⟩
 f22:=⟨Tryz.f301.name,by decide,Tryz.func301.trans (congrArg some (by kernel_rfl))⟩
 f23:=⟨Tryz.f302.name,by decide,Tryz.func302.trans (congrArg some (by kernel_rfl))⟩
 f24:=⟨Tryz.f303.name,by decide,Tryz.func303.trans (congrArg some (by kernel_rfl))⟩
 f25:=⟨Tryz.f304.name,by decide,Tryz.func304.trans (congrArg some (by kernel_rfl))⟩
 f26:=⟨Tryz.f305.name,by decide,Tryz.func305.trans (congrArg some (by kernel_rfl))⟩
 f27:=⟨Tryz.f306.name,by decide,Tryz.func306.trans (congrArg some (by kernel_rfl))⟩
 f28:=Tryz.func212.trans (congrArg some (by kernel_rfl))
 f29:=Tryz.func213.trans (congrArg some (by kernel_rfl))
 f46:=⟨Tryz.f327.name,by decide,Tryz.func327.trans (congrArg some (by kernel_rfl))⟩
 f47:=Tryz.func264.trans (congrArg some (by kernel_rfl))
 f48:=Tryz.func265.trans (congrArg some (by kernel_rfl))
 f49:=⟨Tryz.f328.name,by decide,Tryz.func328.trans (congrArg some (by kernel_rfl))⟩
 f50:=⟨Tryz.f329.name,by decide,Tryz.func329.trans (congrArg some (by kernel_rfl))⟩
 f57:=⟨Tryz.f335.name,by decide,Tryz.func335.trans (congrArg some (by kernel_rfl))⟩
 t0:=Tryz.underlying0
 a0:=Tryz.isAgg0
 z0:=Tryz.sizeOf0
 v0:=Tryz.zeroValue0
 t3:=Tryz.underlying3
 a3:=Tryz.isAgg3
 z3:=Tryz.sizeOf3
 v3:=Tryz.zeroValue3
 t4:=Tryz.underlying4
 a4:=Tryz.isAgg4
 z4:=Tryz.sizeOf4
 v4:=Tryz.zeroValue4
 t5:=Tryz.underlying5
 a5:=Tryz.isAgg5
 z5:=Tryz.sizeOf5
 v5:=Tryz.zeroValue5
 t9:=Tryz.underlying9
 a9:=Tryz.isAgg9
 z9:=Tryz.sizeOf9
 v9:=Tryz.zeroValue9
 t22:=Tryz.underlying129
 a22:=Tryz.isAgg129
 z22:=Tryz.sizeOf129
 v22:=Tryz.zeroValue129
 t25:=Tryz.underlying269
 a25:=Tryz.isAgg269
 z25:=Tryz.sizeOf269
 v25:=Tryz.zeroValue269
 t39:=Tryz.underlying221
 a39:=Tryz.isAgg221
 z39:=Tryz.sizeOf221
 v39:=Tryz.zeroValue221
 t45:=Tryz.underlying282
 a45:=Tryz.isAgg282
 z45:=Tryz.sizeOf282
 v45:=Tryz.zeroValue282
 t46:=Tryz.underlying283
 a46:=Tryz.isAgg283
 z46:=Tryz.sizeOf283
 v46:=Tryz.zeroValue283
 t50:=Tryz.underlying266
 a50:=Tryz.isAgg266
 z50:=Tryz.sizeOf266
 v50:=Tryz.zeroValue266
 t53:=Tryz.underlying289
 a53:=Tryz.isAgg289
 z53:=Tryz.sizeOf289
 v53:=Tryz.zeroValue289
 t55:=Tryz.underlying291
 a55:=Tryz.isAgg291
 z55:=Tryz.sizeOf291
 v55:=Tryz.zeroValue291
 t66:=Tryz.underlying339
 a66:=Tryz.isAgg339
 z66:=Tryz.sizeOf339
 v66:=Tryz.zeroValue339
 t70:=Tryz.underlying343
 a70:=Tryz.isAgg343
 z70:=Tryz.sizeOf343
 v70:=Tryz.zeroValue343
 t76:=Tryz.underlying382
 a76:=Tryz.isAgg382
 z76:=Tryz.sizeOf382
 v76:=Tryz.zeroValue382
 t77:=Tryz.underlying274
 a77:=Tryz.isAgg274
 z77:=Tryz.sizeOf274
 v77:=Tryz.zeroValue274 }
def Tryz.growEv_ren:Go.Shelf.Ren:=⟨fun | 4=>243 | n=>n,fun | 22=>243 | 25=>246 | 3=>3 | 4=>4 | 9=>9 | 20=>20 | 0=>0 | n=>n,fun | n=>n⟩
theorem Tryz.growEv:Go.Proofs.Lays8.n4 Tryz.prog Tryz.growEv_ren:= {
 mixed:=by kernel_rfl
 f4:=⟨Tryz.f243.name,by decide,Tryz.func243.trans (congrArg some (by kernel_rfl))⟩
 t0:=Tryz.underlying0
 a0:=Tryz.isAgg0
 z0:=Tryz.sizeOf0
 v0:=Tryz.zeroValue0
 t3:=Tryz.underlying3
 a3:=Tryz.isAgg3
 z3:=Tryz.sizeOf3
 v3:=Tryz.zeroValue3
 t4:=Tryz.underlying4
 a4:=Tryz.isAgg4
 z4:=Tryz.sizeOf4
 v4:=Tryz.zeroValue4
 t9:=Tryz.underlying9
 a9:=Tryz.isAgg9
 z9:=Tryz.sizeOf9
 v9:=Tryz.zeroValue9
 t20:=Tryz.underlying20
 a20:=Tryz.isAgg20
 z20:=Tryz.sizeOf20
 v20:=Tryz.zeroValue20
 t22:=Tryz.underlying243
 a22:=Tryz.isAgg243
 z22:=Tryz.sizeOf243
 v22:=Tryz.zeroValue243 }
end Go.Proofs
