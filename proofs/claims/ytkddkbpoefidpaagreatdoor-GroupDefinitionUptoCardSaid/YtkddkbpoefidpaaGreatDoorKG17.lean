/- joined texts of a proof: RefF, RefJ, HeapA, ShelfC, StabX, PairA, HeapQ, StabC, StabY, PairX, Open, DepthX, NormA, DepR, DepS -/
import Derived.Test.YtkddkbpoefidpaaGreatDoorKG16
import Derived.Test.YtkddkbpoefidpaaGreatDoorKG14
import Derived.Test.YtkddkbpoefidpaaGreatDoorKG02
import Derived.Test.YtkddkbpoefidpaaGreatDoorKG01
import Derived.Test.YtkddkbpoefidpaaGreatDoorKG04
import Derived.Shelf.SlSortCmp.KitK
import Derived.Sort.WalkB2
import Derived.Sort.WalkB12
import Derived.Deep.LoopGhost
import Derived.Ground.SlsfProg
import Derived.Shelf.SlSortCmp.WholeK
import Derived.Shelf.Spec.SlicesGrow
import Derived.Ground.Names8Prog
import Derived.Test.YtkddkbpoefidpaaGreatDoorProg
import Derived.Shelf.SlSortCmp.PdqK
import Derived.Test.YtkddkbpoefidpaaGreatDoorKG05
import Derived.OneCell
import Derived.Shelf.SlSortCmp.QuietGrown
import Derived.Shelf.SlSortCmp.NoneTotal
import Derived.Test.YtkddkbpoefidpaaGreatDoorKG03
import Derived.ProofKit
import Derived.OpenShut
import Derived.Deep.Strs
import Derived.Lib.SmallJoins
import Derived.Maps.Own
import Derived.Maps.OwnOps
import Derived.Maps.RangeWalk
import Derived.Maps.Views
namespace Go.Proofs.YtkddkbpoefidpaaGreatDoor
open Go.RowKit
theorem v3_of {w:World} {b o nd cap:Nat} {D:List Val} (h:SliceOf Rep.val w.cell? (.slice (some ⟨b,o,none⟩) nd cap) D) (j:Nat) (hj:j<D.length):V3 w b (o+j*3) D[j]:=by
 obtain⟨h0,h1,h2,_⟩:=val_cells h j hj
 exact⟨h0,h1,h2⟩
theorem stepE_bad {row done:List Val} {x:ExprI} (h:legalE done.length x=false):stepE row done x=nV:=by
 unfold stepE
 rw [h]
 rfl
theorem stepE_ok {row done:List Val} {x:ExprI} (h:legalE done.length x=true):stepE row done x=applyV x ((argsE x done).getD 0 nV) ((argsE x done).getD 1 nV) row:=by
 unfold stepE
 rw [h]
 rfl
theorem legal_1 {i:Nat} {x:ExprI} (h:arityE x.op=1) (hl:legalE i x=true) : ∃ja:Nat,x.a=ja∧ja<i:=by
 have h2:=(legalE_iff i x).1 hl x.a (by rw [opsE_1 h];simp)
 exact⟨x.a.toNat,by omega,by omega⟩
theorem legal_2 {i:Nat} {x:ExprI} (h:arityE x.op=2) (hl:legalE i x=true):(∃ja:Nat,x.a=ja∧ja<i)∧ ∃jb:Nat,x.b=jb∧jb<i:=by
 have h2:=(legalE_iff i x).1 hl x.a (by rw [opsE_2 h];simp)
 have h3:=(legalE_iff i x).1 hl x.b (by rw [opsE_2 h];simp)
 exact⟨⟨x.a.toNat,by omega,by omega⟩,x.b.toNat,by omega,by omega⟩
theorem arg_take {D:List Val} {i j:Nat} (hi:i≤D.length) (hj:j<i):argE (D.take i) (j:Int)=D[j]'(by omega):=by
 unfold argE
 rw [Int.toNat_natCast,List.getD_eq_getElem?_getD,List.getElem?_take_of_lt hj,List.getElem?_eq_getElem (by omega)]
 rfl
set_option maxHeartbeats 4000000 in
theorem refStep_any (v:Value) (es:List ExprI) (i:Nat) (hi:i<es.length) (hl:es.length≤1000) (vr:Value) (row:List Val) (bd od nd cd:Nat) (D:List Val) (hnd:nd=D.length) (hD:i≤D.length) (hoD : ∀z∈D,okVal z) (w:World)
  (he:SliceOf Rep.expr w.cell? v es) (hr:SliceOf Rep.val w.cell? vr row) (hd:SliceOf Rep.val w.cell? (.slice (some ⟨bd,od,none⟩) nd cd) D) :
  Calls Tryz.prog 169 #[v,.int .i64 i,vr,.slice (some ⟨bd,od,none⟩) nd cd] w fun e w'=>e = .returned (valV (stepE row (D.take i) es[i]))∧Ext w w':=by
 have hlen:(D.take i).length=i:=by rw [List.length_take];omega
 obtain⟨x,hx⟩ : ∃x,es[i]=x:=⟨_,rfl⟩
 cases hleg:legalE i es[i]with
 |false =>
  rw [stepE_bad (by rw [hlen];exact hleg)]
  refine refEval_illegal v es i hi hl x hx ?_ hleg bd od nd cd vr w he
  rw [hx]at hleg
  by_cases c:1≤x.op∧x.op≤11
  ·exact c
  ·exfalso
   have ha:arityE x.op = -1:=by
    unfold arityE
    rw [if_neg (by omega),if_neg (by omega),if_neg (by omega)]
   rw [legalE_n i x (-1) ha]at hleg
   exact absurd hleg (by simp)
 |true =>
  rw [stepE_ok (by rw [hlen];exact hleg),hx]
  by_cases c:1≤x.op∧x.op≤11
  ·have hleg2:=hleg
   rw [hx]at hleg2
   by_cases c1:x.op=1
   ·have e:applyV x ((argsE x (D.take i)).getD 0 nV) ((argsE x (D.take i)).getD 1 nV) row=x.c:=by unfold applyV;rw [if_pos c1]
    rw [e]
    exact refEval_const v es i hi hl x hx c1 hleg bd od nd cd vr w he
   by_cases c2:x.op=2
   ·have e:applyV x ((argsE x (D.take i)).getD 0 nV) ((argsE x (D.take i)).getD 1 nV) row=colAt row x.col:=by unfold applyV;rw [if_neg c1,if_pos c2]
    rw [e]
    exact refEval_col v es i hi hl x hx c2 hleg bd od nd cd vr w he row hr
   by_cases c3:x.op=10∨x.op=11
   ·have har:arityE x.op=1:=by rcases c3 with c | c <;> (rw [c];decide)
    obtain⟨ja,ha,hja⟩:=legal_1 har hleg2
    have e0:(argsE x (D.take i)).getD 0 nV=D[ja]'(by omega):=by
     unfold argsE
     rw [opsE_1 har,ha]
     exact arg_take hD hja
    rw [e0]
    have hv:=v3_of hd ja (by omega)
    rcases c3 with c | c
    ·have e:applyV x (D[ja]'(by omega)) ((argsE x (D.take i)).getD 1 nV) row=boolV (!trueV (D[ja]'(by omega))):=by
      unfold applyV
      rw [c]
      simp
     rw [e]
     exact refEval_not v es i hi hl x hx c hleg bd od nd cd ja _ ⟨ha,by omega⟩ vr w he hv
    ·have e:applyV x (D[ja]'(by omega)) ((argsE x (D.take i)).getD 1 nV) row=boolV (decide ((D[ja]'(by omega)).kind=0)):=by
      unfold applyV
      rw [c]
      simp
     rw [e]
     exact refEval_isnull v es i hi hl x hx c hleg bd od nd cd ja _ ⟨ha,by omega⟩ vr w he hv
   ·have h7:3≤x.op∧x.op≤9:=by omega
    have har:arityE x.op=2:=by unfold arityE;rw [if_neg (by omega),if_neg (by omega),if_pos h7]
    obtain⟨⟨ja,ha,hja⟩,jb,hb,hjb⟩:=legal_2 har hleg2
    have e0:(argsE x (D.take i)).getD 0 nV=D[ja]'(by omega):=by
     unfold argsE
     rw [opsE_2 har,ha]
     exact arg_take hD hja
    have e1:(argsE x (D.take i)).getD 1 nV=D[jb]'(by omega):=by
     unfold argsE
     rw [opsE_2 har,hb]
     exact arg_take hD hjb
    rw [e0,e1]
    have hva:=v3_of hd ja (by omega)
    have hvb:=v3_of hd jb (by omega)
    have hoa:=hoD _ (List.getElem_mem (show ja<D.length by omega))
    have hob:=hoD _ (List.getElem_mem (show jb<D.length by omega))
    generalize D[ja]'(by omega)=a at hva hoa ⊢
    generalize D[jb]'(by omega)=b at hvb hob ⊢
    have h8:x.op=3∨x.op=4∨x.op=5∨x.op=6∨x.op=7∨x.op=8∨x.op=9:=by omega
    rcases h8 with c | c | c | c | c | c | c
    ·have e:applyV x a b row=arithV 3 a b:=by unfold applyV;rw [c];simp
     rw [e]
     exact refEval_add v es i hi hl x hx c hleg bd od nd cd ja a ⟨ha,by omega⟩ jb b ⟨hb,by omega⟩ vr w he hva hvb hoa hob
    ·have e:applyV x a b row=arithV 4 a b:=by unfold applyV;rw [c];simp
     rw [e]
     exact refEval_sub v es i hi hl x hx c hleg bd od nd cd ja a ⟨ha,by omega⟩ jb b ⟨hb,by omega⟩ vr w he hva hvb hoa hob
    ·have e:applyV x a b row=arithV 5 a b:=by unfold applyV;rw [c];simp
     rw [e]
     exact refEval_mul v es i hi hl x hx c hleg bd od nd cd ja a ⟨ha,by omega⟩ jb b ⟨hb,by omega⟩ vr w he hva hvb hoa hob
    ·have e:applyV x a b row=boolV (eqV a b):=by unfold applyV;rw [c];simp
     rw [e]
     exact refEval_eq v es i hi hl x hx c hleg bd od nd cd ja a ⟨ha,by omega⟩ jb b ⟨hb,by omega⟩ vr w he hva hvb
    ·have e:applyV x a b row=boolV (lessV a b):=by unfold applyV;rw [c];simp
     rw [e]
     exact refEval_less v es i hi hl x hx c hleg bd od nd cd ja a ⟨ha,by omega⟩ jb b ⟨hb,by omega⟩ vr w he hva hvb
    ·have e:applyV x a b row=boolV (trueV a&&trueV b):=by unfold applyV;rw [c];simp
     rw [e]
     exact refEval_and v es i hi hl x hx c hleg bd od nd cd ja a ⟨ha,by omega⟩ jb b ⟨hb,by omega⟩ vr w he hva hvb
    ·have e:applyV x a b row=boolV (trueV a||trueV b):=by unfold applyV;rw [c];simp
     rw [e]
     exact refEval_or v es i hi hl x hx c hleg bd od nd cd ja a ⟨ha,by omega⟩ jb b ⟨hb,by omega⟩ vr w he hva hvb
  ·have e:applyV x ((argsE x (D.take i)).getD 0 nV) ((argsE x (D.take i)).getD 1 nV) row=nV:=by
    unfold applyV
    rw [if_neg (by omega),if_neg (by omega),if_neg (by omega),if_neg (by omega),if_neg (by omega),if_neg (by omega),if_neg (by omega),if_neg (by omega),if_neg (by omega)]
   rw [e]
   exact refEval_none v es i hi hl x hx c hleg bd od nd cd vr w he
theorem vc_cells {w:World} {g:Nat} : ∀(D:List Val) (k:Nat),(∀j (hj:j<D.length),VC w g (k+j) D[j])→ ∀j u,(D.map fun x=> [Value.int .i64 x.kind,.int .i64 x.n,.string x.s]).flatten[j]?=some u→w.cell? ⟨g,k*3+j,none⟩=some u:=by
 intro D
 induction D with
 |nil=>intro k _ j u hj;simp at hj
 |cons x D ih =>
  intro k h j u hj
  have h0:=h 0 (by simp)
  rw [List.map_cons,List.flatten_cons]at hj
  simp only [List.getElem_cons_zero,Nat.add_zero]at h0
  obtain⟨a0,a1,a2⟩:=h0
  match j,hj with
  |0,hj=>simp at hj;rw [←hj];exact a0
  |1,hj=>simp at hj;rw [←hj];exact a1
  |2,hj=>simp at hj;rw [←hj];exact a2
  |j+3,hj =>
   have h2:=ih (k+1) (fun m hm=>by
    have:=h (m+1) (by simp;omega)
    simp only [List.getElem_cons_succ]at this
    rwa [show k+(m+1)=k+1+m by omega]at this) j u (by
    rw [List.getElem?_append_right (by simp)]at hj
    simpa using hj)
   rwa [show (k+1)*3+j=k*3+(j+3)by omega]at h2
theorem vc_slice {w:World} {g M cap:Nat} (hc:M≤cap) (hc2:cap≤maxLen) {D:List Val} (hD:D.length=M) (h : ∀j (hj:j<D.length),VC w g j D[j]) (ho : ∀x∈D,okVal x):SliceOf Rep.val w.cell? (.slice (some ⟨g,0,none⟩) M cap) D:=by
 refine⟨D.map fun x=> [Value.int .i64 x.kind,.int .i64 x.n,.string x.s],?_,?_⟩
 ·clear h hD
  induction D with
  |nil=>trivial
  |cons x D ih =>
   rw [List.map_cons]
   exact⟨⟨rfl,ho x (by simp)⟩,ih fun y hy=>ho y (by simp [hy])⟩
 ·rw [hD]
  refine .inr ⟨_,cap,rfl,hc,hc2,.inr ⟨g,0,rfl,fun j u hj=> ?_⟩⟩
  have:=vc_cells D 0 (fun m hm=>by rw [Nat.zero_add];exact h m hm) j u hj
  rwa [Nat.zero_mul]at this
def refD (es:List ExprI) (row:List Val) (k M:Nat):List Val:=(List.range M).map fun j=>(evalAll es row k).getD j nV
theorem refD_len (es:List ExprI) (row:List Val) (k M:Nat):(refD es row k M).length=M:=by unfold refD;simp
theorem refD_get (es:List ExprI) (row:List Val) (k M j:Nat) (h:j<(refD es row k M).length):(refD es row k M)[j]=(evalAll es row k).getD j nV:=by
 simp [refD]
theorem refD_take {es:List ExprI} {row:List Val} {k M:Nat} (h:k≤M):(refD es row k M).take k=evalAll es row k:=by
 refine List.ext_getElem? fun j=> ?_
 by_cases c:j<k
 ·rw [List.getElem?_take_of_lt c]
  unfold refD
  rw [List.getElem?_map,List.getElem?_range (by omega),List.getElem?_eq_getElem (by rw [evalAll_len];exact c)]
  show some ((evalAll es row k).getD j nV)=_
  rw [List.getD_eq_getElem?_getD,List.getElem?_eq_getElem (by rw [evalAll_len];exact c)]
  rfl
 ·rw [List.getElem?_eq_none (by rw [List.length_take];omega),List.getElem?_eq_none (by rw [evalAll_len];omega)]
set_option maxRecDepth 100000 in
set_option maxHeartbeats 8000000 in
theorem refEval_in (v:Value) (es:List ExprI) (root:Nat) (vv:Value) (vals:List Val) (w:World) (he:SliceOf Rep.expr w.cell? v es) (hr:root<es.length) (hl:es.length≤1000) (hv:SliceOf Rep.val w.cell? vv vals) :
  Calls Tryz.prog 118 #[v,.int .i64 root,vv] w fun e w'=>e = .returned (valV (evalE es root vals))∧Ext w w':=by
 obtain⟨i3,hi3,hz30,hz31,hz32⟩:=info_parts info_val3
 have HXO:=Lib.hid (expr_ok he)
 have HVO:=Lib.hid (vals_ok hv)
 obtain⟨p,cap,rfl,hc1,hc2,hp⟩:=he.form
 obtain⟨q,qc,rfl,_⟩:=hv.form
 obtain⟨bb,ob,rfl⟩:=hp (by decide) (by omega)
 obtain⟨y,hy⟩ : ∃y,y=evalE es root vals:=⟨_,rfl⟩
 rw [←hy]
 have HY:=Lib.hid hy
 obtain⟨N,hN⟩ : ∃N,N=es.length:=⟨_,rfl⟩
 have HE:=Lib.hid he
 rw [←hN]at HE hc1 ⊢
 have HV:=Lib.hid hv
 have HN:=Lib.hid hN
 have HL:=Lib.hid hl
 obtain⟨M,hM⟩ : ∃M,M=root+1:=⟨_,rfl⟩
 have HM:=Lib.hid hM
 have hMN:M≤N:=by omega
 have hM1:M≤1000:=by omega
 have em:(root:Int)+1=(M:Int):=by omega
 have hw1:IntKind.i64.wrap (M:Int)=(M:Int):=by rw [IntKind.wrap_i64];omega
 have hd0:decide ((root:Int)<0)=false:=by simp
 have hd1:decide ((N:Int)≤(root:Int))=false:=by simp;omega
 have hrM:(root:Int)<(M:Int):=by omega
 have hM0:0<M:=by omega
 clear he hv hN hl hy hM hc2 hp
 go_enter Tryz.func118,Tryz.ntmps118
 go_wp2_with (at_make;go_loud (refine wpList_make_full _ rfl _ _ 68 rfl w.heap.size 73 i3 _ 3 Tryz.underlying68 hi3 hz30 hz31 .i64 .i64 (M:Int) (M:Int) M rfl rfl rfl rfl (by rw [hz32];omega) (by unfold maxLen;omega) (by simp) ?_))
 intro w1 own1 gr1
 have hF1:=FreeN.made own1
 have hC1 : ∀j,j<M→VC w1 (w.heap.size+1) j nV:=fun j hj=>by
  obtain⟨g',cap',e1,_,_,_,_,hc⟩:=own_cells own1 hM0
  injection e1 with e1
  injection e1 with e1
  injection e1 with e1
  subst e1
  exact⟨hc (j*3) _ (made3 _ _ _ M j 0 hj (by omega)),hc (j*3+1) _ (made3 _ _ _ M j 1 hj (by omega)),hc (j*3+2) _ (made3 _ _ _ M j 2 hj (by omega))⟩
 have X1:=Lib.hid (ext_grown ((Ext.refl w).alloc _) gr1 (fun k hk=>by cases hk))
 have xz:=ext_grown (Ext.refl _) gr1 (fun k hk=>by cases hk)
 have HZ0:=Lib.hid (ZR.ext xz (g:=w.heap.size) ⟨by go_simp,by go_simp,(by go_simp;rfl),by go_simp,by go_simp,by go_simp⟩)
 clear xz
 obtain⟨g,hg⟩ : ∃g,g=w.heap.size+1:=⟨_,rfl⟩
 have hF2:FreeN w1 g (M*3):=by
  rw [hg]
  exact hF1
 rw [←hg]at hC1
 have HG:=Lib.hid hg
 have HF2:=Lib.hid hF2
 have HC2:=Lib.hid hC1
 have HX1:=Lib.hid (show Ext w w1 from X1.out)
 try rw [←hg]
 clear hF1 hF2 own1 gr1 X1 hg hC1
 go_wp2_with fail
 go_loopg [8] M (fun gk vi wr=> ∃(k:Nat),k≤M∧gk=M - k∧vi = .int .i64 k∧Hid (FreeN wr g (M*3))∧Hid (∀j,j<M→VC wr g j ((evalAll es vals k).getD j nV))∧Hid (ZR wr w.heap.size)∧Hid (Ext w wr))
 case atStart=>exact⟨0,by omega,rfl,rfl,HF2.out,HC2.out,HZ0.out,HX1.out⟩
 case round =>
  clear HF2 HX1 HZ0 HC2
  obtain⟨k,hk,rfl,rfl,HFR,HCC,HRS,hx⟩:=hrel
  by_cases hlt:k<M
  ·have hd:decide ((k:Int)≤(root:Int))=true:=by have:=HM.out;simp;omega
   have hkM:(k:Int)<(M:Int):=by omega
   have hkn:k<es.length:=by have:=HN.out;omega
   have hput : ∀j,(evalAll es vals (k+1)).getD j nV=if j=k then stepE vals (evalAll es vals k) es[k]else(evalAll es vals k).getD j nV:=fun j=>by
    rw [evalAll_put,getElem!_pos es k hkn]
   have hDO : ∀v∈evalAll es vals k,okVal v:=ok_evalAll (fun z hz=>(HXO.out z hz).2) HVO.out k (by omega)
   have hDR : ∀v∈refD es vals k M,okVal v:=fun v hv=>by
    obtain⟨j,_,rfl⟩:=List.mem_map.1 hv
    exact ok_getD hDO j
   have HDR:=Lib.hid hDR
   have HPUT:=Lib.hid hput
   have hSD:SliceOf Rep.val wr.cell? (.slice (some ⟨g,0,none⟩) M M) (refD es vals k M):=vc_slice (Nat.le_refl _) (by unfold maxLen;omega) (refD_len es vals k M) (fun j hj=>by
    have h1:=HCC.out j (by rw [refD_len]at hj;exact hj)
    rw [refD_get];exact h1) hDR
   have HSD:=Lib.hid hSD
   clear hput hDO hDR hSD
   go_wp2_with fail
   refine(refStep_any _ es k hkn HL.out _ vals g 0 M M (refD es vals k M) (refD_len es vals k M).symm (by rw [refD_len];omega) HDR.out _ (HE.out.ext hx.out.full) (HV.out.ext hx.out.full) HSD.out).mono ?_
   rintro e w3 ⟨rfl,x3⟩
   rw [refD_take hk]
   obtain⟨yy,hyy⟩ : ∃z,z=stepE vals (evalAll es vals k) es[k]:=⟨_,rfl⟩
   rw [←hyy]
   have HYY:=Lib.hid hyy.symm
   have HFR3:=Lib.hid (HFR.out.ext x3)
   have HRS3:=Lib.hid (HRS.out.ext x3)
   have HCC3:=Lib.hid (show ∀i,i<M→VC w3 g i ((evalAll es vals k).getD i nV)from fun i hi=>(HCC.out i hi).ext x3)
   have HX3:=Lib.hid (hx.out.trans x3)
   obtain⟨yk,yn,ys⟩:=yy
   obtain⟨⟨o0,p0⟩,f0⟩:=HFR3.out (k*3) (by omega)
   obtain⟨⟨o1,p1⟩,f1⟩:=HFR3.out (k*3+1) (by omega)
   obtain⟨⟨o2,p2'⟩,f2⟩:=HFR3.out (k*3+2) (by omega)
   have e3:=cell_lt p0
   have HGB:=Lib.hid (show w.heap.size≤g∧g≠w.heap.size from by have:=HG.out;omega)
   clear hyy x3 hx HFR HRS HCC
   unfold valV
   dsimp only
   go_wp2_with fail
   go_roundg (M - (k+1))
   case measure=>omega
   case rel =>
    refine⟨k+1,by omega,rfl,by go_num,((HFR3.out.set _ _).set _ _).set _ _,(fun i hi=> ?_),?_,Below.setCell (Below.setCell (Below.setCell HX3.out HGB.out.1 _) HGB.out.1 _) HGB.out.1 _⟩
    ·rw [HPUT.out,HYY.out]
     exact VC.put HFR3.out HCC3.out hlt ⟨yk,yn,ys⟩ i hi
    ·obtain⟨z0,z1,z2,u0,u1,u2⟩:=HRS3.out
     have hne:=HGB.out.2
     exact⟨cell_set (cell_set (cell_set z0 hne) hne) hne,cell_set (cell_set (cell_set z1 hne) hne) hne,cell_set (cell_set (cell_set z2 hne) hne) hne,by go_simp,by go_simp,by go_simp⟩
  ·have hkM:k=M:=by omega
   have hd:decide ((k:Int)≤(root:Int))=false:=by have:=HM.out;simp;omega
   obtain⟨s0,s1,s2⟩:=HCC.out root (by have:=HM.out;omega)
   have hyy:(evalAll es vals k).getD root nV=y:=by
    have h1:=HY.out
    have h2:=HN.out
    have h3:=HM.out
    rw [h1]
    unfold evalE
    rw [if_pos (by omega),Int.toNat_natCast,show k=root+1 by omega]
   rw [hyy]at s0 s1 s2
   obtain⟨p0,p1,p2,f0,f1,f2⟩:=HRS.out
   have e3:=cell_lt s0
   have e4:=cell_lt p0
   have HXF:=Lib.hid hx.out
   clear hkM HCC HRS HFR hx hyy
   go_wp2_with fail
   exact bodyPost_ret (v:=valV y) (by simp [results,Tryz.results118,go_sem,p0,p1,p2]) rfl ⟨rfl,Below.setCell (Below.setCell (Below.setCell HXF.out (Nat.le_refl _) _) (Nat.le_refl _) _) (Nat.le_refl _) _⟩
set_option maxRecDepth 100000 in
set_option maxHeartbeats 4000000 in
theorem refEval_any (v:Value) (es:List ExprI) (root:Int) (vv:Value) (vals:List Val) (w:World) (he:SliceOf Rep.expr w.cell? v es) (hl:es.length≤1000) (hv:SliceOf Rep.val w.cell? vv vals) :
  Calls Tryz.prog 118 #[v,.int .i64 root,vv] w fun e w'=>e = .returned (valV (evalE es root vals))∧Ext w w':=by
 by_cases h0:root<0
 ·have hy:evalE es root vals=nV:=by unfold evalE;rw [if_neg (by omega)]
  rw [hy]
  obtain⟨p,cap,rfl,_⟩:=he.form
  have hd0:decide (root<0)=true:=by simp;omega
  clear hy h0 he hv
  go_enter Tryz.func118,Tryz.ntmps118
  go_wp2_with fail
  exact bodyPost_ret (v:=valV nV) (by simp [results,Tryz.results118,go_sem,valV,nV];rfl) rfl ⟨rfl,(Ext.refl w).alloc _⟩
 ·by_cases h1:root<es.length
  ·obtain⟨r,rfl⟩ : ∃r:Nat,root=r:=⟨root.toNat,by omega⟩
   exact refEval_in v es r vv vals w he (by omega) hl hv
  ·have hy:evalE es root vals=nV:=by unfold evalE;rw [if_neg (by omega)]
   rw [hy]
   obtain⟨p,cap,rfl,_⟩:=he.form
   have hd0:decide (root<0)=false:=by simp;omega
   have hd1:decide ((es.length:Int)≤root)=true:=by simp;omega
   clear hy h0 h1 he hv
   go_enter Tryz.func118,Tryz.ntmps118
   go_wp2_with fail
   exact bodyPost_ret (v:=valV nV) (by simp [results,Tryz.results118,go_sem,valV,nV];rfl) rfl ⟨rfl,(Ext.refl w).alloc _⟩
end Go.Proofs.YtkddkbpoefidpaaGreatDoor
namespace Go.Proofs.YtkddkbpoefidpaaGreatDoor
open Go.RowKit
def refJ1 (tr:List Val→Bool) (W:Int) (B:List Row) (x:Row):List Row:=joinRow tr B x++if 0≤W then padOf W.toNat (joinRow tr B x) x else []
def refJ (tr:List Val→Bool) (W:Int) (A B:List Row):List Row:=A.flatMap (refJ1 tr W B)
def WholeOr (most:Int) (full l:List Row):Prop:=((full.length:Int)≤most→l=full)∧(most<(full.length:Int)→most<(l.length:Int))
def fitJ (l:List Row):Prop:= ∀r∈l,r.vals.length≤1000∧r.lin.length≤1000
end Go.Proofs.YtkddkbpoefidpaaGreatDoor
namespace Go.Proofs.YtkddkbpoefidpaaGreatDoor
open Go.RowKit Go.Shelf Go.Sort
instance:Inhabited Ev:=⟨⟨false,0,0,0⟩⟩
def actEnc (x:Ev):List Value:= [.int .i64 x.idx,.int .i64 x.to_]
def okE (x:Ev):Prop:=x.idx≤1048576∧ -9223372036854775808≤x.to_∧x.to_≤9223372036854775807
def Rep.act:Rep Ev where
 size:=2
 holds _ cs x:=cs=actEnc x∧okE x
 len:=by rintro w cs x ⟨rfl,_⟩;rfl
 ext:=by rintro w w' cs x h _;exact h
 one:=by rintro w cs x ⟨rfl,_⟩;simp [actEnc,Value.oneCell']
theorem act_len (x:Ev):(actEnc x).length=2:=rfl
section
variable {α:Type} {R:Rep α} {enc:α→List Value} {ok:α→Prop}
variable [Inhabited α]
end
def ltAct (x y:Ev):Bool:=decide (x.to_<y.to_)
theorem mixedOrd:Tryz.prog.follows Departure.mixedOrders=true:=by kernel_rfl
end Go.Proofs.YtkddkbpoefidpaaGreatDoor
namespace Go.Proofs
open Go.Shelf
def Tryz.insEv_ren:Go.Shelf.Ren:=⟨fun | 20=>287 | n=>n,fun | 24=>246 | 22=>243 | 3=>3 | 25=>249 | 4=>4 | 0=>0 | n=>n,fun | n=>n⟩
def Tryz.sortPairs_ren:Go.Shelf.Ren:=⟨fun | 6=>180 | 15=>148 | 14=>248 | 28=>212 | 29=>213 | 20=>290 | 21=>291 | 22=>292 | 23=>293 | 24=>294 | 25=>295 | 26=>296 | 27=>297 | 46=>324 | 47=>264 | 48=>265 | 49=>325 | 50=>326 | 57=>334 | n=>n,fun | 22=>194 | 24=>197 | 25=>261 | 3=>3 | 39=>221 | 0=>0 | 53=>289 | 55=>291 | 4=>4 | 46=>283 | 45=>282 | 50=>266 | 5=>5 | 9=>9 | 66=>339 | 70=>343 | 76=>382 | 77=>274 | n=>n,fun | n=>n⟩
def Tryz.sortPers_ren:Go.Shelf.Ren:=⟨fun | 6=>185 | 15=>148 | 14=>252 | 28=>212 | 29=>213 | 20=>299 | 21=>300 | 22=>301 | 23=>302 | 24=>303 | 25=>304 | 26=>305 | 27=>306 | 46=>327 | 47=>264 | 48=>265 | 49=>328 | 50=>329 | 57=>335 | n=>n,fun | 22=>129 | 24=>94 | 25=>269 | 3=>3 | 39=>221 | 0=>0 | 53=>289 | 55=>291 | 4=>4 | 46=>283 | 45=>282 | 50=>266 | 5=>5 | 9=>9 | 66=>339 | 70=>343 | 76=>382 | 77=>274 | n=>n,fun | n=>n⟩
def Tryz.growEv_ren:Go.Shelf.Ren:=⟨fun | 4=>243 | n=>n,fun | 22=>243 | 25=>246 | 3=>3 | 4=>4 | 9=>9 | 20=>20 | 0=>0 | n=>n,fun | n=>n⟩
end Go.Proofs
namespace Go.Proofs.YtkddkbpoefidpaaGreatDoor
open Go.RowKit Go.Shelf Go.Sort
def sideI (b:Bool):Int:=if b then 1 else 0
def evEnc (x:Ev):List Value:= [.int .i64 x.from_,.int .i64 (sideI x.side),.int .i64 x.idx]
def okS (x:Ev):Prop:=x.idx≤1048576∧ -9223372036854775808≤x.from_∧x.from_≤9223372036854775807
def Rep.ev:Rep Ev where
 size:=3
 holds _ cs x:=cs=evEnc x∧okS x
 len:=by rintro w cs x ⟨rfl,_⟩;rfl
 ext:=by rintro w w' cs x h _;exact h
 one:=by rintro w cs x ⟨rfl,_⟩;simp [evEnc,Value.oneCell']
theorem ev_len (x:Ev):(evEnc x).length=3:=rfl
def cmpEv (x y:Ev):Int:=cmpI x.from_ y.from_
theorem drew_set (w:World) (p:Addr) (v:Value):w.drew.setCell p v=(w.setCell p v).drew:=rfl
end Go.Proofs.YtkddkbpoefidpaaGreatDoor
namespace Go.Proofs.YtkddkbpoefidpaaGreatDoor
open Go.RowKit Go.Shelf Go.Sort
end Go.Proofs.YtkddkbpoefidpaaGreatDoor
namespace Go.Proofs.YtkddkbpoefidpaaGreatDoor
open Go.RowKit Go.Shelf Go.Sort
instance:Inhabited Pair:=⟨⟨0,0,0,0⟩⟩
def pairEnc (x:Pair):List Value:= [.int .i64 x.a,.int .i64 x.b,.int .i64 x.from_,.int .i64 x.to_]
def okP (x:Pair):Prop:=(x.a≤1048576∧x.b≤1048576)∧(-9223372036854775808≤x.from_∧x.from_≤9223372036854775807)∧(-9223372036854775808≤x.to_∧x.to_≤9223372036854775807)
def Rep.pair:Rep Pair where
 size:=4
 holds _ cs x:=cs=pairEnc x∧okP x
 len:=by rintro w cs x ⟨rfl,_⟩;rfl
 ext:=by rintro w w' cs x h _;exact h
 one:=by rintro w cs x ⟨rfl,_⟩;simp [pairEnc,Value.oneCell']
end Go.Proofs.YtkddkbpoefidpaaGreatDoor
namespace Go.Proofs.YtkddkbpoefidpaaGreatDoor
open Go.RowKit Go.Shelf Go.Sort
end Go.Proofs.YtkddkbpoefidpaaGreatDoor
namespace Go.Proofs.YtkddkbpoefidpaaGreatDoor
open Go.RowKit Go.Shelf Go.Sort
end Go.Proofs.YtkddkbpoefidpaaGreatDoor
namespace Go.Proofs.YtkddkbpoefidpaaGreatDoor
open Go.RowKit Go.Shelf Go.Sort
structure QAt (w:World) (qb s B:Nat) (v:Value) (xs:List Ev):Prop where
 cell:w.cell? ⟨qb,s,none⟩=some v
 free:w.frozen? ⟨qb,s,none⟩=false
 own:OwnOf Rep.act w (fun _=>True) B 256 v xs
 ne:v.ownBlock≠some qb
 base:B≤w.heap.size
def Oth (w w':World) (qb s:Nat):Prop:= ∀j,j≠s→w'.cell? ⟨qb,j,none⟩=w.cell? ⟨qb,j,none⟩∧w'.frozen? ⟨qb,j,none⟩=w.frozen? ⟨qb,j,none⟩
theorem flat_lone {α:Type} {R:Rep α} (h:View) (b:Nat) (cs:List Value) (x:α) (hx:R.holds h cs x) (h0 : ∀j u,cs[j]?=some u→h ⟨b,j,none⟩=some u):SliceOf R h (.slice (some ⟨b,0,none⟩) 1 1) [x] :=
 ⟨[cs],⟨hx,trivial⟩,.inr ⟨_,1,rfl,Nat.le_refl _,by simp [maxLen],.inr ⟨b,0,rfl,fun j u hj=>by
  rw [Nat.zero_add]
  exact h0 j u (by simpa using hj)⟩⟩⟩
end Go.Proofs.YtkddkbpoefidpaaGreatDoor
namespace Go.Proofs.YtkddkbpoefidpaaGreatDoor
open Go.RowKit Go.Shelf Go.Sort
def HeapL (xs:List Ev):Prop:=HeapTo ltAct xs.length xs.toArray
end Go.Proofs.YtkddkbpoefidpaaGreatDoor
namespace Go.Proofs.YtkddkbpoefidpaaGreatDoor
open Go.RowKit Go.Shelf Go.Sort
end Go.Proofs.YtkddkbpoefidpaaGreatDoor
namespace Go.Proofs.YtkddkbpoefidpaaGreatDoor
open Go.RowKit Go.Shelf Go.Sort
end Go.Proofs.YtkddkbpoefidpaaGreatDoor
namespace Go.Proofs.YtkddkbpoefidpaaGreatDoor
open Go.RowKit Go.Shelf Go.Sort
def Bk (s lo hi:Nat) (d:Array Ev):Prop:= ∀i j,lo≤i→i<j→j<hi→i / s=j / s→ltOf cmpEv d[j]! d[i]! = false
end Go.Proofs.YtkddkbpoefidpaaGreatDoor
namespace Go.Proofs.YtkddkbpoefidpaaGreatDoor
open Go.RowKit Go.Shelf Go.Sort
end Go.Proofs.YtkddkbpoefidpaaGreatDoor
namespace Go.Proofs.YtkddkbpoefidpaaGreatDoor
open Go.RowKit Go.Shelf Go.Sort
theorem lone_flat {α:Type} {R:Rep α} (hR:R.flat) {w:World} {v:Value} {cs:List Value} {x:α} {xs:List α} {S:Nat→Prop} {base:Nat} {e T:TypeId} (hr:R.holds w.cell? cs x) (own:OwnOf R w S base e v xs) :
  SliceOf R (on (w.alloc (.cells cs.toArray T)) (avoid (fun _=>True) v)) (.slice (some ⟨w.heap.size,0,none⟩) 1 1) [x] :=
 flat_lone _ _ cs x (hR _ _ _ _ hr) fun j u hj=>on_some.2 ⟨⟨fun e=>Nat.lt_irrefl _ (own.lt _ e.symm).2,trivial⟩,by
  have:=cells_new w cs T j u hj
  rwa [add_lit,Nat.zero_add]at this⟩
end Go.Proofs.YtkddkbpoefidpaaGreatDoor
namespace Go.Proofs.YtkddkbpoefidpaaGreatDoor
open Go.RowKit Go.Shelf
end Go.Proofs.YtkddkbpoefidpaaGreatDoor
namespace Go.Proofs.YtkddkbpoefidpaaGreatDoor
open Go.RowKit Go.Shelf Go.Sort
def sideN (c:Bool):Nat:=if c then 1 else 0
def upd {α:Type} (f:Bool→α) (c:Bool) (x:α):Bool→α:=fun d=>if d=c then x else f d
structure Sweep (w wr:World) (sb qb B:Nat) (va vb v3:Value) (es:List Ev) (q:Bool→List Ev) (u:Bool→Value) (vo:Value) (out:List Pair):Prop where
 ext:Ext w wr
 ev:OwnOf Rep.ev wr (fun _=>True) w.heap.size 246 v3 es
 evB : ∀k,v3.ownBlock=some k→k<B∧k≠qb
 s0:wr.cell? ⟨sb,0,none⟩=some va
 s1:wr.cell? ⟨sb,1,none⟩=some vb
 sbB:sb<B∧sb≠qb
 qbB:qb<B∧w.heap.size≤qb
 qs : ∀c,QAt wr qb (sideN c) B (u c) (q c)
 hp : ∀c,HeapL (q c)
 dj : ∀c k,(u c).ownBlock=some k→(u (!c)).ownBlock≠some k
 out:OwnOf Rep.pair wr (fun _=>True) B 197 vo out
 dq : ∀c k,(u c).ownBlock=some k→vo.ownBlock≠some k
structure Kept (w:World) (b:Nat) (x y z:Int):Prop where
 c0:w.cell? ⟨b,0,none⟩=some (.int .i64 x)
 c1:w.cell? ⟨b,1,none⟩=some (.int .i64 y)
 c2:w.cell? ⟨b,2,none⟩=some (.int .i64 z)
def Known (a b:List Tup) (e:Ev):Prop:=okEv e=true∧okS e∧okE e∧ ∃h:e.idx<(if e.side then b else a).length,(if e.side then b else a)[e.idx].from_=e.from_∧(if e.side then b else a)[e.idx].to_=e.to_
end Go.Proofs.YtkddkbpoefidpaaGreatDoor
namespace Go.Proofs.YtkddkbpoefidpaaGreatDoor
open Go.RowKit Go.Deep Go.ChangeShapes Go.WideShapes Go.ChangeAt
def Opens {α:Type} (P:Program) (t:TypeId) (R:Rep α):Prop :=
 ∀(H:Type) (enc:TypeId×Value→H) (w:World) (base:Nat) (spare:Nat→Bool) (held:Bool) (fuel:Nat) (cs:List Value) (x:DataW H×List MemPlace),
  DataW.trod enc P w base spare held fuel t cs=some x→ ∃y,R.holds w.cell? cs y
theorem wf_i64 {n:Int} (h:(Lit.int .i64 n).wf=true) : -9223372036854775808≤n∧n≤9223372036854775807:=by
 simpa [Lit.wf,IntKind.min,IntKind.max,IntKind.signed,IntKind.bits] using h
theorem opens_int {P:Program} {t:TypeId} (ht:P.underlying t=some (.int .i64)):Opens P t Rep.int:=by
 intro H enc w base spare held fuel cs x h
 obtain⟨a,e0,_,wa⟩:=DataW.trod_int ht h
 exact⟨a,e0,wf_i64 wa⟩
theorem repAll_of {α:Type} (R:Rep α) (h:View) (p:Nat→List Value→Prop) (n:Nat) (hp : ∀i,i<n→ ∃cs y,R.holds h cs y∧p i cs) :
  ∃css ys,css.length=n∧RepAll R h css ys∧ ∀i c,css[i]?=some c→p i c:=by
 induction n with
 |zero=>exact⟨[],[],rfl,trivial,fun i c hc=>by simp at hc⟩
 |succ n ih =>
  obtain⟨css,ys,h1,h2,h3⟩:=ih fun i hi=>hp i (by omega)
  obtain⟨c,y,h4,h5⟩:=hp n (by omega)
  refine⟨css ++ [c],ys ++ [y],by simp [h1],h2.append (RepAll.one h4),fun i d hd=> ?_⟩
  by_cases hi:i<css.length
  ·rw [List.getElem?_append_left hi]at hd
   exact h3 i d hd
  ·rw [List.getElem?_append_right (by omega)]at hd
   have:i=n:=by
    have:=(List.getElem?_eq_some_iff.1 hd).1
    simp at this
    omega
   subst this
   rw [h1,Nat.sub_self]at hd
   simp at hd
   subst hd
   exact h5
theorem flat_at {css:List (List Value)} {k:Nat} (hk : ∀c∈css,c.length=k) (j:Nat) (u:Value) (h:css.flatten[j]?=some u) : ∃i r c,css[i]?=some c∧c[r]?=some u∧j=i*k+r:=by
 induction css generalizing j with
 |nil=>simp at h
 |cons c css ih =>
  by_cases hj:j<c.length
  ·rw [List.flatten_cons,List.getElem?_append_left hj]at h
   exact⟨0,j,c,rfl,h,by simp⟩
  ·rw [List.flatten_cons,List.getElem?_append_right (by omega)]at h
   obtain⟨i,r,d,h1,h2,h3⟩:=ih (fun d hd=>hk d (by simp [hd])) _ h
   have:=hk c (by simp)
   exact⟨i+1,r,d,by simpa using h1,h2,by rw [Nat.succ_mul];omega⟩
theorem repAll_len {α:Type} {R:Rep α} {h:View} {css:List (List Value)} {ys:List α} (k:RepAll R h css ys) : ∀c∈css,c.length=R.size:=by
 induction css generalizing ys with
 |nil=>simp
 |cons c css ih =>
  cases ys with
  |nil=>exact k.elim
  |cons y ys =>
   intro d hd
   rcases List.mem_cons.1 hd with rfl | hd
   ·exact R.len k.1
   ·exact ih k.2 d hd
theorem opens_slice {α:Type} {P:Program} {t e:TypeId} {R:Rep α} (ht:P.underlying t=some (.slice e)) (hc:P.cellsOf e=R.size) (hR:Opens P e R):Opens P t R.slice:=by
 intro H enc w base spare held fuel cs x h
 rcases open_slice ht h with ⟨rfl,_⟩ | ⟨a,len,cap,m,n,D,Pl,rfl,hb,hl,hm,hmm,_,hx⟩
 ·exact⟨[],_,rfl,SliceOf.nil R _⟩
 ·have hlm:len≤m:=by rw [hmm];split <;> omega
  obtain⟨css,ys,h1,h2,h3⟩:=repAll_of R w.cell? (fun i cs'=>w.cells? base (a.add (i*P.cellsOf e)) (P.cellsOf e)=some cs') len fun i hi=>by
   obtain⟨cs',g1,g2⟩:=hx i (by omega)
   obtain⟨y,hy⟩:=hR H enc w base spare held n cs' _ g2
   exact⟨cs',y,hy,g1⟩
  have hlen:ys.length=len:=by rw [←h2.length,h1]
  refine⟨ys,_,rfl,css,h2,?_⟩
  rw [hlen]
  refine .inr ⟨a,cap,rfl,hl,hm,?_⟩
  have hcell : ∀j u,css.flatten[j]?=some u→w.cell? (a.add j)=some u:=by
   intro j u hj
   obtain⟨i,r,c,g1,g2,g3⟩:=flat_at (repAll_len h2) j u hj
   obtain⟨_,g5,g6⟩:=World.cells?_some (h3 i c g1)
   have hr:r<P.cellsOf e:=by rw [←g5];exact(List.getElem?_eq_some_iff.1 g2).1
   have:=g6 r hr
   rw [g2,Addr.add_add,hc,←g3]at this
   exact this
  by_cases hne:css.flatten = []
  ·exact .inl hne
  ·right
   obtain⟨u,us,hu⟩:=List.exists_cons_of_ne_nil hne
   have h0:=hcell 0 u (by rw [hu];rfl)
   obtain⟨b,o,sp⟩:=a
   have hsp:sp=none:=by
    cases sp with
    |none=>rfl
    |some s=>simp [World.cell?,Addr.add]at h0;split at h0 <;> simp at h0
   subst hsp
   exact⟨b,o,rfl,fun j u hj=>by have:=hcell j u hj;rwa [add_lit]at this⟩
end Go.Proofs.YtkddkbpoefidpaaGreatDoor
namespace Go.Proofs.YtkddkbpoefidpaaGreatDoor
open Go.RowKit Go.Maps
def stepEnc (s:StepI):List Value:= [.int .i64 s.from_,.int .i64 s.to_,.int .i64 1,.int .i64 s.n,.string ByteArray.empty]
def Rep.step:Rep StepI where
 size:=5
 holds _ cs x:=cs=stepEnc x∧okI x.from_∧okI x.to_∧okI x.n
 len:=by rintro w cs x ⟨rfl,_⟩;rfl
 ext:=by rintro w w' cs x h _;exact h
 one:=by rintro w cs x ⟨rfl,_⟩;simp [stepEnc,Value.oneCell']
theorem flatten_set {u:Value} : ∀(css:List (List Value)) (k i r:Nat),(∀c∈css,c.length=k)→(hi:i<css.length)→r<k→css.flatten.set (i*k+r) u=(css.set i (css[i].set r u)).flatten:=by
 intro css
 induction css with
 |nil=>intro k i r _ hi;simp at hi
 |cons c css ih =>
  intro k i r hl hi hr
  have hc:=hl c (by simp)
  cases i with
  |zero=>simp only [Nat.zero_mul,Nat.zero_add,List.flatten_cons,List.set_cons_zero,List.getElem_cons_zero];rw [List.set_append_left _ _ (by omega)]
  |succ i =>
   simp only [List.flatten_cons,List.set_cons_succ,List.getElem_cons_succ]
   rw [List.set_append_right _ _ (by rw [Nat.succ_mul];omega),hc,show (i+1)*k+r - k=i*k+r by rw [Nat.succ_mul];omega,ih k i r (fun d hd=>hl d (by simp [hd])) (by simpa using hi) hr]
theorem RepAll.set {α:Type} {R:Rep α} {h:View} {css:List (List Value)} {xs:List α} (k:RepAll R h css xs) {c:List Value} {y:α} (hy:R.holds h c y) : ∀i,RepAll R h (css.set i c) (xs.set i y):=by
 induction css generalizing xs with
 |nil =>
  cases xs with
  |nil=>intro i;simpa using k
  |cons x xs=>exact k.elim
 |cons d css ih =>
  cases xs with
  |nil=>exact k.elim
  |cons x xs =>
   intro i
   cases i with
   |zero=>exact⟨hy,k.2⟩
   |succ i=>exact⟨k.1,ih k.2 i⟩
theorem OwnOf.store {α:Type} {R:Rep α} (hR:R.flat) {w:World} {S:Nat→Prop} {base:Nat} {e:TypeId} {g cap:Nat} {xs:List α} (h:OwnOf R w S base e (.slice (some ⟨g,0,none⟩) xs.length cap) xs) (i r:Nat) (hi:i<xs.length) (hr:r<R.size) (u:Value) (y:α)
  (hy : ∀cs,R.holds w.cell? cs xs[i]→R.holds w.cell? (cs.set r u) y) :
  OwnOf R (w.setCell ⟨g,i*R.size+r,none⟩ u) S base e (.slice (some ⟨g,0,none⟩) xs.length cap) (xs.set i y)∧w.grownBy (w.setCell ⟨g,i*R.size+r,none⟩ u) (some g):=by
 obtain⟨css,h1,h2⟩:=h
 have hcl:=h1.length
 obtain⟨h3,h4⟩:=h2.stored (i*R.size+r) u
 refine⟨⟨css.set i ((css[i]'(by omega)).set r u),?_,?_⟩,h4⟩
 ·have h5:RepAll R w.cell? css xs:=h1.flatView hR
  obtain⟨c,g1,g2,_⟩:=h5.at i hi
  rw [List.getElem?_eq_getElem (by omega)]at g2
  injection g2 with g2
  rw [g2]
  exact RepAll.flatView hR (RepAll.set h5 (hy c g1) i)
 ·rw [List.length_set,←flatten_set css R.size i r (repAll_len' h1) (by omega) hr]
  exact h3
structure MapIs (D:DataW Unit) (l:List Tup):Prop where
 map:IsMap D
 val : ∀x,D.atKey (.int .i64 x) (.lit (.int .i64 0)) = .lit (.int .i64 (chg l x))
 has : ∀x,Maps.has D (.int .i64 x)=true↔x∈bnd l
def ColI (D:DataW Unit) (left:Lit→Bool) (ss:List Int):Prop:=ss.Nodup∧ ∀x,x∈ss↔(Maps.has D (.int .i64 x)=true∧left (.int .i64 x)=false)
theorem pts_len (l:List Tup):(pts l).length≤2*l.length:=by
 obtain⟨_,_,p3⟩:=pts_law l
 exact Nat.le_trans p3 (bnd_len l)
theorem cnt_len (l:List Tup) (x:Int):cntAt l x≤l.length:=List.length_filter_le _ _
end Go.Proofs.YtkddkbpoefidpaaGreatDoor
namespace Go.Proofs.YtkddkbpoefidpaaGreatDoor
open Go.RowKit Go.Maps
def fDep (l:List Tup) (i:Nat):Int:=cntAt l (pts l)[i]!
theorem depthOf_eq (l:List Tup):depthOf l=stepsOf (pts l) (fDep l) ((pts l).length - 1):=rfl
end Go.Proofs.YtkddkbpoefidpaaGreatDoor
namespace Go.Proofs.YtkddkbpoefidpaaGreatDoor
open Go.RowKit Go.Shelf Go.Sort
def cmpPer (x y:Per):Int:=cmpI x.from_ y.from_
def okPer (p:Per):Bool:=validB p.from_ p.to_
theorem alloc_size (w:World) (o:Obj):(w.alloc o).heap.size=w.heap.size+1:=by simp
def perOf (t:Tup):Per:=⟨t.from_,t.to_⟩
end Go.Proofs.YtkddkbpoefidpaaGreatDoor
namespace Go.Proofs.YtkddkbpoefidpaaGreatDoor
open Go.RowKit
theorem AscOf.join {o a:List Int} (b:List Int) (h:AscOf o a):AscOf (mergeL o b) (a++b):=by
 obtain⟨h1,h2⟩:=mergeL_law o b
 have hm : ∀x,x∈mergeL o b↔x∈a++b:=fun x=>by rw [h2,List.mem_append,h.2.1]
 exact⟨h1,hm,asc_len h1 fun x hx=>(hm x).1 hx⟩
theorem bnd_step (l:List Tup) (k:Nat) (h:k<l.length):bnd (l.take (k+1))=bnd (l.take k)++if validB l[k].from_ l[k].to_=true then [l[k].from_,l[k].to_]else []:=by
 rw [List.take_succ_eq_append_getElem h,bnd_append]
 simp only [bnd,List.flatMap_cons,List.flatMap_nil,List.append_nil]
 rfl
theorem two_ints (w:World) (f t:Int) (T:TypeId) (hf:okI f∧okI t):SliceOf Rep.int (w.alloc (.cells #[.int .i64 f,.int .i64 t] T)).cell? (.slice (some ⟨w.heap.size,0,none⟩) 2 2) [f,t] :=
 slice_lit Rep.int w [.int .i64 f,.int .i64 t] T [[.int .i64 f],[.int .i64 t]] [f,t] rfl ⟨⟨rfl,hf.1⟩,⟨rfl,hf.2⟩,trivial⟩ (by simp [maxLen])
set_option maxRecDepth 100000 in
set_option maxHeartbeats 4000000 in
theorem ref_bounds (v:Value) (l:List Tup) (w:World) (hv:SliceOf Rep.tup w.cell? v l) (hl:l.length≤20000) :
  Calls Tryz.prog 60 #[v] w fun e w'=> ∃v',e = .returned v'∧SliceOf Rep.int w'.cell? v' (pts l)∧Ext w w':=by
 obtain⟨p,cap,rfl,hc1,hc2,hp⟩:=hv.form
 obtain⟨N,hN⟩ : ∃N,N=l.length:=⟨_,rfl⟩
 have HV:=Lib.hid hv
 rw [←hN]
 have HN:=Lib.hid hN
 have HP:=Lib.hid hp
 have hNl:N≤20000:=by omega
 clear hv hN hp hc1 hc2
 go_enter Tryz.func60,Tryz.ntmps60
 go_wp2_with fail
 go_loopg [3,8] N (fun gk vo vi wr=> ∃(k:Nat) (u:Value) (o:List Int),k≤N∧gk=N - k∧vi = .int .i64 k∧u=vo∧Hid (SliceOf Rep.int wr.cell? u o)∧Hid (AscOf o (bnd (l.take k)))∧Ext w wr)
 case atStart=>exact⟨0,_,[],by omega,rfl,rfl,rfl,SliceOf.nil _ _,AscOf.nil,Ext.refl w⟩
 case round =>
  obtain⟨k,u,o,hk,rfl,rfl,rfl,OW,AS,hx⟩:=hrel
  by_cases hlt:k<N
  ·have hkl:k<l.length:=by have:=HN.out;omega
   obtain⟨b,o',rfl⟩:=HP.out (by decide) (by omega)
   have hv:=HV.out
   rw [←HN.out]at hv
   obtain⟨ta,tb,c0,c1,c2,c3,g0,g1,r1,r2⟩:=tup_at hv k hkl
   obtain⟨pa,ka,ta',_⟩:=g0.form
   obtain⟨pb,kb,tb',_⟩:=g1.form
   subst ta' tb'
   replace c0:=hx.at c0
   replace c1:=hx.at c1
   replace c2:=hx.at c2
   replace c3:=hx.at c3
   have hst:=bnd_step l k hkl
   have hol:o.length≤100000:=by
    have h1:=AS.out.2.2
    have h2:=bnd_len (l.take k)
    have h3:=List.length_take_le k l
    omega
   generalize l[k].from_=f at c1 hst r1
   generalize l[k].to_=t at c2 hst r2
   generalize l[k].vals.length=na at c0
   generalize l[k].lin.length=nb at c3
   have HST:=Lib.hid hst
   have HR:=Lib.hid (show okI f∧okI t from ⟨r1,r2⟩)
   have HOL:=Lib.hid hol
   have hd:decide ((k:Int)<(N:Int))=true:=by simp;omega
   have e0:=cell_lt c0
   clear hst g0 g1 r1 r2 hv hol
   go_wp2_with fail
   refine(rvalid_any f t _).mono ?_
   rintro e w1 ⟨rfl,x1⟩
   have d1:w1.cell? ⟨wr.heap.size,1,none⟩=some (.int .i64 f):=x1.at (by go_simp)
   have d2:w1.cell? ⟨wr.heap.size,2,none⟩=some (.int .i64 t):=x1.at (by go_simp)
   have X1:=Lib.hid (show Ext wr w1 from ((Ext.refl wr).alloc _).trans x1)
   have e1:=cell_lt d1
   clear x1 c0 c1 c2 c3 e0
   cases hvb:validB f t with
   |true =>
    have HVB:=Lib.hid hvb
    clear hvb
    obtain⟨pu,cu,hu,_⟩:=OW.out.form
    subst hu
    go_wp2_with fail
    refine(ref_mergeLineage _ _ o [f,t] _ (OW.out.ext (X1.out.alloc _).full) (two_ints _ _ _ _ HR.out) (by have:=HOL.out;omega) (by simp)).mono ?_
    rintro e w2 ⟨v2,rfl,s2,x2⟩
    have S2:=Lib.hid (s2.ext (on_sub _ _))
    have X2:=Lib.hid ((hx.trans (X1.out.alloc _)).trans x2)
    have AS2:=Lib.hid (AS.out.join [f,t])
    clear s2 x2 d1 d2 e1
    go_wp2_with fail
    go_roundg (N - (k+1))
    case measure=>omega
    case rel=>exact⟨k+1,v2,mergeL o [f,t],by omega,rfl,by go_num,rfl,S2.out,by show AscOf _ _;rw [HST.out,if_pos HVB.out];exact AS2.out,X2.out⟩
   |false =>
    have HVB:=Lib.hid hvb
    clear hvb
    go_wp2_with fail
    go_roundg (N - (k+1))
    case measure=>omega
    case rel=>exact⟨k+1,u,o,by omega,rfl,by go_num,rfl,OW.out.ext X1.out.full,by show AscOf _ _;rw [HST.out,HVB.out,if_neg (by decide),List.append_nil];exact AS.out,hx.trans X1.out⟩
  ·have hkN:k=N:=by omega
   have hd : ¬(k:Int)<(N:Int):=by omega
   have HF:=Lib.hid (show o=pts l from by
    have h:=AS.out
    rw [hkN,HN.out,List.take_length]at h
    exact h.eq (pts_law l))
   clear hkN
   go_wp2_with fail
   go_ret
   exact⟨u,rfl,by rw [←HF.out];exact OW.out,hx⟩
set_option maxHeartbeats 1000000 in
theorem includes_any (f t x:Int) (w:World) :
  Calls Tryz.prog 120 #[perV f t,.int .i64 x] w fun e w'=>e = .returned (.bool (validB f t&&decide (f≤x)&&decide (x<t)))∧Ext w w':=by
 go_enter Tryz.func120,Tryz.ntmps120
 go_wp2_with fail
 refine(rvalid_any f t _).mono ?_
 rintro e w1 ⟨rfl,x1⟩
 have d0:w1.cell? ⟨w.heap.size,0,none⟩=some (.int .i64 f):=x1.at (by go_simp)
 have d1:w1.cell? ⟨w.heap.size,1,none⟩=some (.int .i64 t):=x1.at (by go_simp)
 have X1:=Lib.hid (show Ext w w1 from ((Ext.refl w).alloc _).trans x1)
 have e1:=cell_lt d1
 clear x1
 cases hvb:validB f t with
 |false =>
  go_wp2_with fail
  go_ret
  exact⟨by rw [hvb];simp,X1.out⟩
 |true =>
  by_cases h1:f≤x
  ·have hd1:decide (f≤x)=true:=by simp [h1]
   by_cases h2:x<t
   ·have hd2:decide (x<t)=true:=by simp [h2]
    go_wp2_with fail
    go_ret
    exact⟨by rw [hvb];simp [h1,h2],X1.out⟩
   ·have hd2:decide (x<t)=false:=by simp [h2]
    go_wp2_with fail
    go_ret
    exact⟨by rw [hvb];simp [h1,h2],X1.out⟩
  ·have hd1:decide (f≤x)=false:=by simp [h1]
   go_wp2_with fail
   go_ret
   exact⟨by rw [hvb,hd1];simp,X1.out⟩
end Go.Proofs.YtkddkbpoefidpaaGreatDoor
namespace Go.Proofs.YtkddkbpoefidpaaGreatDoor
open Go.RowKit
end Go.Proofs.YtkddkbpoefidpaaGreatDoor
