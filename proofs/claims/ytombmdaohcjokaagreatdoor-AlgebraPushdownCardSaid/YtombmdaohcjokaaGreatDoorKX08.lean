/- joined texts of a proof: ChkC -/
import Derived.Test.YtombmdaohcjokaaGreatDoorKX07
import Derived.Test.YtombmdaohcjokaaGreatDoorKX03
namespace Go.Proofs.YtombmdaohcjokaaGreatDoor
open Go.RowKit
structure MemoAt (w:World) (R:Nat) (res:Nat→Int×Int) (j:Nat) (b:Bool) (k e:Int):Prop where
 c0:w.cell? ⟨R,j*3,none⟩=some (.bool b)
 c1:w.cell? ⟨R,j*3+1,none⟩=some (.int .i64 k)
 c2:w.cell? ⟨R,j*3+2,none⟩=some (.int .i64 e)
 f0:w.frozen? ⟨R,j*3,none⟩=false
 f1:w.frozen? ⟨R,j*3+1,none⟩=false
 f2:w.frozen? ⟨R,j*3+2,none⟩=false
 ok:b=true→(k,e)=res j
def Memo (w:World) (R n:Nat) (res:Nat→Int×Int):Prop:= ∀j,j<n→ ∃b k e,MemoAt w R res j b k e
theorem MemoAt.ext {w w':World} {R j:Nat} {res:Nat→Int×Int} {b:Bool} {k e:Int} (h:MemoAt w R res j b k e) (hx:Ext w w'):MemoAt w' R res j b k e:=⟨hx.at h.c0,hx.at h.c1,hx.at h.c2,hx.unfrozen h.c0 h.f0,hx.unfrozen h.c1 h.f1,hx.unfrozen h.c2 h.f2,h.ok⟩
theorem Memo.ext {w w':World} {R n:Nat} {res:Nat→Int×Int} (h:Memo w R n res) (hx:Ext w w'):Memo w' R n res:=fun j hj=>by
 obtain⟨b,k,e,h⟩:=h j hj
 exact⟨b,k,e,h.ext hx⟩
theorem Memo.grown {w w':World} {R n:Nat} {res:Nat→Int×Int} {row:Option Nat} (h:Memo w R n res) (gr:w.grownBy w' row) (hne:row≠some R):Memo w' R n res:=fun j hj=>by
 obtain⟨b,k,e,c0,c1,c2,f0,f1,f2,ok⟩:=h j hj
 have hb:=gr.block R (cell_lt c0) (fun e=>hne e.symm)
 have hc : ∀o,w'.cell? ⟨R,o,none⟩=w.cell? ⟨R,o,none⟩:=fun o=>World.cell?_of_block (w:=w) hb
 have hf : ∀o,w'.frozen? ⟨R,o,none⟩=w.frozen? ⟨R,o,none⟩:=fun o=>World.frozen?_of_block (w:=w) hb
 exact⟨b,k,e,(hc _).trans c0,(hc _).trans c1,(hc _).trans c2,(hf _).trans f0,(hf _).trans f1,(hf _).trans f2,ok⟩
theorem cell_far {w:World} {R a c:Nat} {u v:Value} (h:w.cell? ⟨R,a,none⟩=some v) (hne:c≠a):(w.setCell ⟨R,c,none⟩ u).cell? ⟨R,a,none⟩=some v:=by
 rw [World.cell?_setCell_other _ _ _ _ (fun e=>by injection e with _ e _;exact hne e)];exact h
theorem frozen_set (w:World) (p q:Addr) (u:Value):(w.setCell p u).frozen? q=w.frozen? q:=by go_simp
theorem Memo.put {w:World} {R n i:Nat} {res:Nat→Int×Int} (h:Memo w R n res) (hi:i<n) (k e:Int) (hr:(k,e)=res i) :
  Memo (((w.setCell ⟨R,i*3,none⟩ (.bool true)).setCell ⟨R,i*3+1,none⟩ (.int .i64 k)).setCell ⟨R,i*3+2,none⟩ (.int .i64 e)) R n res:=by
 intro j hj
 obtain⟨b,k',e',c0,c1,c2,f0,f1,f2,ok⟩:=h j hj
 by_cases c:j=i
 ·subst c
  refine⟨true,k,e,?_,?_,?_,?_,?_,?_,fun _=>hr⟩ <;> go_simp
 ·refine⟨b,k',e',?_,?_,?_,?_,?_,?_,ok⟩
  ·exact cell_far (cell_far (cell_far c0 (by omega)) (by omega)) (by omega)
  ·exact cell_far (cell_far (cell_far c1 (by omega)) (by omega)) (by omega)
  ·exact cell_far (cell_far (cell_far c2 (by omega)) (by omega)) (by omega)
  ·rw [frozen_set,frozen_set,frozen_set];exact f0
  ·rw [frozen_set,frozen_set,frozen_set];exact f1
  ·rw [frozen_set,frozen_set,frozen_set];exact f2
def resE (es:List ExprI) (cols:List Int) (j:Nat):Int×Int:=chkStep cols (chkAll es cols j) es[j]!
structure CkX (w:World) (C R:Nat) (es:List ExprI) (cols:List Int):Prop where
 ce : ∃ve,w.cell? ⟨C,0,none⟩=some ve∧SliceOf Rep.expr (on w fun b=>b≠R) ve es
 cc : ∃vc,w.cell? ⟨C,1,none⟩=some vc∧SliceOf Rep.int (on w fun b=>b≠R) vc cols
 cr:w.cell? ⟨C,2,none⟩=some (.slice (some ⟨R,0,none⟩) es.length es.length)
 ne:C≠R
 memo:Memo w R es.length (resE es cols)
theorem CkX.ext {w w':World} {C R:Nat} {es:List ExprI} {cols:List Int} (h:CkX w C R es cols) (hx:Ext w w'):CkX w' C R es cols:=by
 obtain⟨⟨ve,h1,h2⟩,⟨vc,h3,h4⟩,h5,h6,h7⟩:=h
 exact⟨⟨ve,hx.at h1,h2.ext (hx.sub _)⟩,⟨vc,hx.at h3,h4.ext (hx.sub _)⟩,hx.at h5,h6,h7.ext hx⟩
theorem CkX.chg {w w':World} {C R:Nat} {es:List ExprI} {cols:List Int} (h:CkX w C R es cols) (hx:Chg (fun b=>b=R) w w') (hm:Memo w' R es.length (resE es cols)):CkX w' C R es cols:=by
 obtain⟨⟨ve,h1,h2⟩,⟨vc,h3,h4⟩,h5,h6,h7⟩:=h
 exact⟨⟨ve,hx.at h1 h6,h2.chg hx fun b hb=>hb⟩,⟨vc,hx.at h3 h6,h4.chg hx fun b hb=>hb⟩,hx.at h5 h6,h6,hm⟩
theorem resE_all {es:List ExprI} {cols:List Int} {i:Nat} {o:Int} (h0:0≤o) (h1:o<i):(chkAll es cols i).getD o.toNat (0,0)=resE es cols o.toNat:=chkAll_get es cols i o.toNat (by omega)
def ResOk (es:List ExprI) (cols:List Int):Prop:= ∀j,okI (resE es cols j).1
def CheckLaw (C R:Nat) (es:List ExprI) (cols:List Int) (i:Nat):Prop:= ∀w,CkX w C R es cols→Calls Tryz.prog 254 #[.pointer (some ⟨C,0,none⟩),.int .i64 i] w fun e w'=>e = .returned (.tuple #[.int .i64 (resE es cols i).1,.int .i64 (resE es cols i).2])∧CkX w' C R es cols∧Chg (fun b=>b=R) w w'
theorem ops_since {w W:World} {o:Obj} {n c:Nat} {xs:List Int} (hx:Ext w W) (h:SliceOf Rep.int (W.alloc o).cell? (.slice (some ⟨W.heap.size,0,none⟩) n c) xs):SliceOf Rep.int (on (W.alloc o) (since w)) (.slice (some ⟨W.heap.size,0,none⟩) n c) xs :=
 h.flatOn flat_int fun ad n' c' e=>by
  injection e with e _ _
  injection e with e
  subst e
  exact hx.size
set_option maxRecDepth 100000 in
set_option maxHeartbeats 4000000 in
theorem operands_new (x:ExprI) (ha:okI x.a) (hb:okI x.b) (w:World) :
  Calls Tryz.prog 177 #[.agg (exprEnc x).toArray] w fun e w'=> ∃v,e = .returned v∧SliceOf Rep.int (on w' (since w)) v (opsE x)∧Ext w w':=by
 have hops : ∀k:Nat,(arityE x.op).toNat=k→opsE x = [x.a,x.b].take k:=fun k hk=>by unfold opsE;rw [hk]
 have HO:=Lib.hid hops
 obtain⟨op,a,b,col,⟨ck,cn,cs⟩⟩:=x
 dsimp only at ha hb HO
 obtain⟨L,hL⟩ : ∃L,L=opsE ⟨op,a,b,col,⟨ck,cn,cs⟩⟩:=⟨_,rfl⟩
 rw [←hL]at HO ⊢
 have HA:=Lib.hid ha
 have HB:=Lib.hid hb
 unfold exprEnc
 dsimp only
 have h4:=arityE_le op
 have h5:arityE op = -1∨arityE op=0∨arityE op=1∨arityE op=2:=by omega
 clear hops hL ha hb h4
 rcases h5 with h | h | h | h
 all_goals
  have AR:=Lib.hid h
  have HL:=Lib.hid (HO.out _ (congrArg Int.toNat h))
  clear h HO
  have m1:max (-1:Int) 0=0:=rfl
  have m2:max (0:Int) 0=0:=rfl
  have m3:max (1:Int) 0=1:=rfl
  have m4:max (2:Int) 0=2:=rfl
  go_enter Tryz.func177,Tryz.ntmps177
  go_wp2_with fail
  have k0:(w.alloc (.cells #[.int .i64 op,.int .i64 a,.int .i64 b,.int .i64 col,.int .i64 ck,.int .i64 cn,.string cs] 66)).cell? ⟨w.heap.size,0,none⟩=some (.int .i64 op):=by go_simp
  have k1:(w.alloc (.cells #[.int .i64 op,.int .i64 a,.int .i64 b,.int .i64 col,.int .i64 ck,.int .i64 cn,.string cs] 66)).cell? ⟨w.heap.size,1,none⟩=some (.int .i64 a):=by go_simp
  have k2:(w.alloc (.cells #[.int .i64 op,.int .i64 a,.int .i64 b,.int .i64 col,.int .i64 ck,.int .i64 cn,.string cs] 66)).cell? ⟨w.heap.size,2,none⟩=some (.int .i64 b):=by go_simp
  have x0:Ext w (w.alloc (.cells #[.int .i64 op,.int .i64 a,.int .i64 b,.int .i64 col,.int .i64 ck,.int .i64 cn,.string cs] 66)):=(Ext.refl w).alloc _
  generalize w.alloc (.cells #[.int .i64 op,.int .i64 a,.int .i64 b,.int .i64 col,.int .i64 ck,.int .i64 cn,.string cs] 66)=W at k0 k1 k2 x0 ⊢
  have hS0:Ext w W.drew∧W.drew.cell? ⟨w.heap.size,0,none⟩=some (.int .i64 op)∧W.drew.cell? ⟨w.heap.size,1,none⟩=some (.int .i64 a)∧W.drew.cell? ⟨w.heap.size,2,none⟩=some (.int .i64 b):=⟨x0.drew,k0,k1,k2⟩
  clear k0 k1 k2
  go_region_held3 (fun w'=>Ext w w'∧w'.cell? ⟨w.heap.size,0,none⟩=some (.int .i64 op)∧w'.cell? ⟨w.heap.size,1,none⟩=some (.int .i64 a)∧w'.cell? ⟨w.heap.size,2,none⟩=some (.int .i64 b))
   (first |with_reducible assumption | with_reducible exact keepE3 (by assumption) hx2 | with_reducible exact keepE3 (by assumption) ((Ext.refl _).alloc _))
   (first |(go_at_call 223;refine(arity_is AR.out _).mono ?_;rintro e w2 ⟨rfl,hx2⟩))
  all_goals (obtain⟨hfin,_⟩:= ‹Ext w _∧_›)
  all_goals go_wp2_with fail
  all_goals go_ret
  all_goals first
   |exact⟨_,rfl,slice_as HL.out (ops_since (x0.drew.trans hx2) (ops_lit w2 a b _ HA.out HB.out _ (by decide))),hfin⟩
   |exact⟨_,rfl,(slice_as HL.out (ops_since x0 (ops_lit W a b _ HA.out HB.out _ (by decide)))).ext (hx2.sub _),hfin⟩
set_option maxRecDepth 100000 in
set_option maxHeartbeats 8000000 in
theorem derive_any (C R:Nat) (es:List ExprI) (cols:List Int) (i:Nat) (hi:i<es.length) (hel:es.length≤1000) (hro:ResOk es cols) (IH : ∀j,j<i→CheckLaw C R es cols j) (w:World) (hX:CkX w C R es cols) :
  Calls Tryz.prog 301 #[.pointer (some ⟨C,0,none⟩),.int .i64 i] w fun e w'=>e = .returned (.tuple #[.int .i64 (resE es cols i).1,.int .i64 (resE es cols i).2])∧CkX w' C R es cols∧Chg (fun b=>b=R) w w':=by
 obtain⟨i3,hi3,hz30,hz31,hz32⟩:=info_parts info_ints
 have mixed:=mixedA
 have HX:=Lib.hid hX
 have HIH:=Lib.hid IH
 have HEL:=Lib.hid hel
 have HRO:=Lib.hid hro
 obtain⟨⟨ve,h1,h2⟩,⟨vc,h3,h4⟩,_,_,_⟩:=hX
 have HES:=Lib.hid (expr_ok (h2.ext (on_sub _ _)))
 obtain⟨pe,ce,rfl,_,_,hpe⟩:=h2.form
 obtain⟨pc,cc,rfl,_⟩:=h4.form
 obtain⟨be,oe,rfl⟩:=hpe (by decide) (by omega)
 have HC1:=Lib.hid (And.intro h3 (h4.ext (on_sub _ _)))
 obtain⟨c0,c1,c2,c3,c4,c5,c6⟩:=expr_at (h2.ext (on_sub _ _)) i hi
 have hok:=HES.out es[i] (List.getElem_mem hi)
 have hres:resE es cols i=chkStep cols (chkAll es cols i) es[i]:=by unfold resE;rw [getElem!_pos es i hi]
 have hii:(i:Int)<(es.length:Int):=by omega
 have hin:i<es.length:=hi
 generalize es[i]=x at c0 c1 c2 c3 c4 c5 c6 hok hres
 obtain⟨xo,xa,xb,xc,⟨xk,xn,xs⟩⟩:=x
 dsimp only at c0 c1 c2 c3 c4 c5 c6 hok
 obtain⟨D,hD⟩ : ∃D,D=chkAll es cols i:=⟨_,rfl⟩
 have hDl:D.length=i:=by rw [hD];exact chkAll_len es cols i
 have HDR:=Lib.hid (show ∀o:Int,0≤o→o<i→D.getD o.toNat (0,0)=resE es cols o.toNat from fun o g0 g1=>by rw [hD];exact resE_all g0 g1)
 rw [←hD]at hres
 have HRES:=Lib.hid hres
 have HOK:=Lib.hid hok
 have HDL:=Lib.hid hDl
 obtain⟨N,hN⟩ : ∃z,z=es.length:=⟨_,rfl⟩
 rw [←hN]at h1 hii hin
 obtain⟨nc,hnc⟩ : ∃z,z=cols.length:=⟨_,rfl⟩
 rw [←hnc]at h3
 have HNC:=Lib.hid hnc
 have HN:=Lib.hid hN
 have e0:=cell_lt c0
 have e1:=cell_lt h1
 rw [HRES.out]
 clear h2 h4 hpe hok hres hD hDl hN hnc IH hi
 go_enter Tryz.func301,Tryz.ntmps301
 go_wp2_with fail
 refine(arity_any xo _).mono ?_
 rintro e w1 ⟨rfl,rfl⟩
 have a0:(w.alloc (.cells #[.int .i64 xo,.int .i64 xa,.int .i64 xb,.int .i64 xc,.int .i64 xk,.int .i64 xn,.string xs] 66)).cell? ⟨w.heap.size,0,none⟩=some (.int .i64 xo):=by go_simp
 have a1:(w.alloc (.cells #[.int .i64 xo,.int .i64 xa,.int .i64 xb,.int .i64 xc,.int .i64 xk,.int .i64 xn,.string xs] 66)).cell? ⟨w.heap.size,1,none⟩=some (.int .i64 xa):=by go_simp
 have a2:(w.alloc (.cells #[.int .i64 xo,.int .i64 xa,.int .i64 xb,.int .i64 xc,.int .i64 xk,.int .i64 xn,.string xs] 66)).cell? ⟨w.heap.size,2,none⟩=some (.int .i64 xb):=by go_simp
 have a3:(w.alloc (.cells #[.int .i64 xo,.int .i64 xa,.int .i64 xb,.int .i64 xc,.int .i64 xk,.int .i64 xn,.string xs] 66)).cell? ⟨w.heap.size,3,none⟩=some (.int .i64 xc):=by go_simp
 have a4:(w.alloc (.cells #[.int .i64 xo,.int .i64 xa,.int .i64 xb,.int .i64 xc,.int .i64 xk,.int .i64 xn,.string xs] 66)).cell? ⟨w.heap.size,4,none⟩=some (.int .i64 xk):=by go_simp
 have a5:(w.alloc (.cells #[.int .i64 xo,.int .i64 xa,.int .i64 xb,.int .i64 xc,.int .i64 xk,.int .i64 xn,.string xs] 66)).cell? ⟨w.heap.size,5,none⟩=some (.int .i64 xn):=by go_simp
 have a6:(w.alloc (.cells #[.int .i64 xo,.int .i64 xa,.int .i64 xb,.int .i64 xc,.int .i64 xk,.int .i64 xn,.string xs] 66)).cell? ⟨w.heap.size,6,none⟩=some (.string xs):=by go_simp
 have xw:Ext w (w.alloc (.cells #[.int .i64 xo,.int .i64 xa,.int .i64 xb,.int .i64 xc,.int .i64 xk,.int .i64 xn,.string xs] 66)):=(Ext.refl w).alloc _
 generalize (w.alloc (.cells #[.int .i64 xo,.int .i64 xa,.int .i64 xb,.int .i64 xc,.int .i64 xk,.int .i64 xn,.string xs] 66))=W at a0 a1 a2 a3 a4 a5 a6 xw ⊢
 obtain⟨E,hE⟩ : ∃z,z=w.heap.size:=⟨_,rfl⟩
 rw [←hE]at a0 a1 a2 a3 a4 a5 a6 ⊢
 have HA:=Lib.hid (And.intro a0 (And.intro a1 (And.intro a2 (And.intro a3 (And.intro a4 (And.intro a5 a6))))))
 have XW:=Lib.hid xw
 have CX:=Lib.hid (HX.out.ext xw)
 have HER:=Lib.hid (show E≠R from fun e=>by
  obtain⟨b,k,e2,h⟩:=HX.out.memo i (by rw [←HN.out];exact hin)
  have:=cell_lt h.c0
  omega)
 clear xw c0 c1 c2 c3 c4 c5 c6 h1 h3 e0 e1 hE
 have eE:=cell_lt a0
 have hal:=arityE_le xo
 by_cases har:arityE xo<0
 ·have d1:decide (arityE xo<0)=true:=decide_eq_true har
  have HR:=Lib.hid (show chkStep cols D ⟨xo,xa,xb,xc,⟨xk,xn,xs⟩⟩=(0,5)from if_pos (.inl har))
  clear har hal
  go_wp2_with fail
  exact bodyPost_ret (v:= .tuple #[.int .i64 0,.int .i64 5]) (by simp [results,Tryz.results301,go_sem]) rfl ⟨by rw [HR.out],CX.out,XW.out.chg _⟩
 have d1:decide (arityE xo<0)=false:=decide_eq_false har
 have HAR:=Lib.hid har
 have hcase:(xo=1∧validV ⟨xk,xn,xs⟩=false)∨(xo=1∧validV ⟨xk,xn,xs⟩=true)∨xo≠1:=by
  by_cases c:xo=1
  ·cases hv:validV ⟨xk,xn,xs⟩
   ·exact .inl ⟨c,rfl⟩
   ·exact .inr (.inl ⟨c,rfl⟩)
  ·exact .inr (.inr c)
 clear har
 rcases hcase with ⟨hx1,hv1⟩ | ⟨hx1,hv1⟩ | hx1
 ·have b1:(xo==1)=true:=by simp [hx1]
  have HR:=Lib.hid (show chkStep cols D ⟨xo,xa,xb,xc,⟨xk,xn,xs⟩⟩=(0,5)from if_pos (.inr ⟨hx1,hv1⟩))
  have HV:=Lib.hid hv1
  clear hx1 hv1
  go_wp2_with fail
  refine(valid_val ⟨xk,xn,xs⟩ _).mono ?_
  rintro e w2 ⟨rfl,x2⟩
  rw [HV.out]
  have X2:=Lib.hid x2
  clear x2
  go_wp2_with fail
  exact bodyPost_ret (v:= .tuple #[.int .i64 0,.int .i64 5]) (by simp [results,Tryz.results301,go_sem]) rfl ⟨by rw [HR.out],CX.out.ext X2.out,(XW.out.trans X2.out).chg _⟩
 ·have b1:(xo==1)=true:=by simp [hx1]
  have HHEAD:=Lib.hid (show ¬(arityE xo<0∨(xo=1∧validV ⟨xk,xn,xs⟩=false))from fun h=>h.elim HAR.out fun h=>by rw [hv1]at h;cases h.2)
  have HV:=Lib.hid hv1
  clear hx1 hv1
  go_wp2_with fail
  refine(valid_val ⟨xk,xn,xs⟩ _).mono ?_
  rintro e w2 ⟨rfl,x2⟩
  rw [HV.out]
  have X2:=Lib.hid x2
  clear a0 a1 a2 a3 a4 a5 a6 x2
  have a0:=X2.out.at HA.out.1
  have a1:=X2.out.at HA.out.2.1
  have a2:=X2.out.at HA.out.2.2.1
  have a3:=X2.out.at HA.out.2.2.2.1
  have a4:=X2.out.at HA.out.2.2.2.2.1
  have a5:=X2.out.at HA.out.2.2.2.2.2.1
  have a6:=X2.out.at HA.out.2.2.2.2.2.2
  have CX2:=Lib.hid (CX.out.ext X2.out)
  have XW2:=Lib.hid (XW.out.trans X2.out)
  clear X2 CX XW HV
  have e2:=cell_lt a0
  have HA2:=Lib.hid (And.intro a0 (And.intro a1 (And.intro a2 (And.intro a3 (And.intro a4 (And.intro a5 a6))))))
  go_wp2_with fail
  refine(operands_any ⟨xo,xa,xb,xc,⟨xk,xn,xs⟩⟩ HOK.out.1.1 HOK.out.1.2 _).mono ?_
  rintro e w4 ⟨v4,rfl,s4,x4⟩
  clear a0 a1 a2 a3 a4 a5 a6 e2 HA eE
  have a0:=x4.at HA2.out.1
  have a1:=x4.at HA2.out.2.1
  have a2:=x4.at HA2.out.2.2.1
  have a3:=x4.at HA2.out.2.2.2.1
  have a4:=x4.at HA2.out.2.2.2.2.1
  have a5:=x4.at HA2.out.2.2.2.2.2.1
  have a6:=x4.at HA2.out.2.2.2.2.2.2
  have e4:=cell_lt a0
  have CX4:=Lib.hid (CX2.out.ext x4)
  have XW4:=Lib.hid (XW2.out.trans x4)
  obtain⟨p4,d4,rfl,_,_,hp4⟩:=s4.form
  have hleg:=legalE_iff i ⟨xo,xa,xb,xc,⟨xk,xn,xs⟩⟩
  have hol:=opsE_len ⟨xo,xa,xb,xc,⟨xk,xn,xs⟩⟩
  obtain⟨O,hO⟩ : ∃O,O=opsE ⟨xo,xa,xb,xc,⟨xk,xn,xs⟩⟩:=⟨_,rfl⟩
  rw [←hO]at hleg hol s4 hp4 ⊢
  obtain⟨n,hn⟩ : ∃n,n=O.length:=⟨_,rfl⟩
  rw [←hn]at hol s4 hp4 ⊢
  dsimp only at hol
  have hn2:n≤2:=by omega
  have HLEG:=Lib.hid hleg
  have HOL:=Lib.hid hol
  have HO:=Lib.hid hO
  have HNO:=Lib.hid hn
  have S4:=Lib.hid s4
  have HP4:=Lib.hid hp4
  clear x4 hleg hol hO hn s4 hp4 CX2 XW2
  go_wp2_with fail
  go_loopg [39] n (fun gj vi wr=> ∃(j:Nat),j≤n∧gj=n - j∧vi = .int .i64 j∧Hid (∀o∈O.take j,0≤o∧o<i)∧w4=wr)
  case atStart=>exact⟨0,by omega,rfl,rfl,(fun o ho=>by simp at ho),rfl⟩
  case round =>
   obtain⟨j,hj,rfl,rfl,HLJ,rfl⟩:=hrel
   by_cases hjn:j<n
   ·obtain⟨b2,o2,rfl⟩:=HP4.out (by decide) (by omega)
    have hjl:j<O.length:=by have:=HNO.out;omega
    have sv:=S4.out
    obtain⟨d0,-⟩:=int_at sv j hjl
    have hdj:decide ((j:Int)<(n:Int))=true:=by simp;omega
    have HMEM:=Lib.hid (show O[j]∈O from List.getElem_mem hjl)
    have HTK:=Lib.hid (show O.take (j+1)=O.take j ++ [O[j]]from List.take_succ_eq_append_getElem hjl)
    generalize O[j]=z at d0 HTK HMEM
    have ed:=cell_lt d0
    clear sv hjl
    go_wp2_with fail
    refine(legal_any i z _).mono ?_
    rintro e w5 ⟨rfl,rfl⟩
    by_cases hlz:0≤z∧z<i
    ·have hb:(decide (0≤z)&&decide (z<(i:Int)))=true:=by simp;exact hlz
     have HLZ:=Lib.hid hlz
     rw [hb]
     clear hb hlz
     go_wp2_with fail
     go_roundg (n - (j+1))
     case measure=>omega
     case rel =>
      refine⟨j+1,by omega,rfl,by go_num,?_,rfl⟩
      show ∀o∈O.take (j+1),_
      rw [HTK.out]
      intro o ho
      rcases List.mem_append.1 ho with ho | ho
      ·exact HLJ.out o ho
      ·rw [List.mem_singleton]at ho
       rw [ho]
       exact HLZ.out
    ·have hb:(decide (0≤z)&&decide (z<(i:Int)))=false:=by
      rw [Bool.eq_false_iff]
      intro hh
      simp only [Bool.and_eq_true,decide_eq_true_eq]at hh
      exact hlz hh
     have hnl:legalE i ⟨xo,xa,xb,xc,⟨xk,xn,xs⟩⟩=false:=by
      rw [Bool.eq_false_iff]
      intro hh
      exact hlz (HLEG.out.1 hh z HMEM.out)
     have HR:=Lib.hid (show chkStep cols D ⟨xo,xa,xb,xc,⟨xk,xn,xs⟩⟩=(0,10)from by unfold chkStep;rw [if_neg HHEAD.out,HDL.out,if_pos hnl])
     rw [hb]
     clear hb hlz hnl
     go_wp2_with fail
     exact bodyPost_ret (v:= .tuple #[.int .i64 0,.int .i64 10]) (by simp [results,Tryz.results301,go_sem]) rfl ⟨by rw [HR.out],CX4.out,XW4.out.chg _⟩
   ·have hjn2:j=n:=by omega
    have hdj : ¬(j:Int)<(n:Int):=by omega
    have hall:O.take j=O:=by rw [hjn2,HNO.out,List.take_length]
    rw [hall]at HLJ
    have hleg:legalE i ⟨xo,xa,xb,xc,⟨xk,xn,xs⟩⟩=true:=HLEG.out.2 HLJ.out
    have HLEG2:=Lib.hid (show ¬legalE D.length ⟨xo,xa,xb,xc,⟨xk,xn,xs⟩⟩=false from by rw [HDL.out,hleg];decide)
    clear hjn2 hall hleg hj hjn
    have hcase:(xo=2∧xc<0)∨(xo=2∧0≤xc∧(nc:Int)≤xc)∨(xo=2∧0≤xc∧xc<(nc:Int))∨xo≠2:=by omega
    rcases hcase with ⟨hx2,hc2⟩ | ⟨hx2,hc2,hc3⟩ | ⟨hx2,hc2,hc3⟩ | hx2
    ·have b2:(xo==2)=true:=by simp [hx2]
     have b3:decide (xc<0)=true:=decide_eq_true hc2
     have HR:=Lib.hid (show chkStep cols D ⟨xo,xa,xb,xc,⟨xk,xn,xs⟩⟩=(0,10)from by unfold chkStep;rw [if_neg HHEAD.out,if_neg HLEG2.out,if_pos ⟨hx2,.inl hc2⟩])
     obtain⟨vc4,g0,_⟩:=CX4.out.cc
     have gc:=(XW4.out.at HC1.out.1)
     rw [←HNC.out]at gc
     have eg:=cell_lt gc
     clear hx2 g0
     go_wp2_with fail
     go_big_region_o
     go_wp2_with fail
     exact bodyPost_ret (v:= .tuple #[.int .i64 0,.int .i64 10]) (by simp [results,Tryz.results301,go_sem]) rfl ⟨by rw [HR.out],CX4.out.ext (Ext.refl w4).drew,(XW4.out.trans (Ext.refl w4).drew).chg _⟩
    ·have b2:(xo==2)=true:=by simp [hx2]
     have b3:decide (xc<0)=false:=decide_eq_false (by omega)
     have b4:decide ((nc:Int)≤xc)=true:=decide_eq_true hc3
     have HR:=Lib.hid (show chkStep cols D ⟨xo,xa,xb,xc,⟨xk,xn,xs⟩⟩=(0,10)from by unfold chkStep;rw [if_neg HHEAD.out,if_neg HLEG2.out,if_pos ⟨hx2,.inr (by rw [←HNC.out];exact hc3)⟩])
     have hn3 : ¬xc<0:=by omega
     have gc:=(XW4.out.at HC1.out.1)
     rw [←HNC.out]at gc
     have eg:=cell_lt gc
     clear hx2 hc2
     go_wp2_with fail
     go_big_region_o
     go_wp2_with fail
     exact bodyPost_ret (v:= .tuple #[.int .i64 0,.int .i64 10]) (by simp [results,Tryz.results301,go_sem]) rfl ⟨by rw [HR.out],CX4.out.ext (Ext.refl w4).drew,(XW4.out.trans (Ext.refl w4).drew).chg _⟩
    ·have b2:(xo==2)=true:=by simp [hx2]
     have b3:decide (xc<0)=false:=decide_eq_false (by omega)
     have b4:decide ((nc:Int)≤xc)=false:=decide_eq_false (by omega)
     have HCOL:=Lib.hid (show ¬(xo=2∧(xc<0∨(cols.length:Int)≤xc))from fun h=>by have:=HNC.out;omega)
     have hn3 : ¬xc<0:=by omega
     have hn4 : ¬(nc:Int)≤xc:=by omega
     have gc:=(XW4.out.at HC1.out.1)
     rw [←HNC.out]at gc
     have eg:=cell_lt gc
     clear hx2 hc2 hc3
     go_wp2_with fail
     go_big_region_o
     clear gc eg hn3 hn4
     go_wp2_with fail
     refine(operands_new ⟨xo,xa,xb,xc,⟨xk,xn,xs⟩⟩ HOK.out.1.1 HOK.out.1.2 _).mono ?_
     rintro e w5 ⟨v5,rfl,s5,x5⟩
     replace x5:Ext w4 w5:=(Ext.refl w4).drew.trans x5
     have CX5:=Lib.hid (CX4.out.ext x5)
     have XW5:=Lib.hid (XW4.out.trans x5)
     rw [←HO.out]at s5
     obtain⟨p5,d5,rfl,_,_,hp5⟩:=s5.form
     rw [←HNO.out]at s5 hp5 ⊢
     have S5:=Lib.hid (show SliceOf Rep.int (on w5 fun b=>b≠R) (.slice p5 n d5) O from s5.ext (on_mono w5 fun b _ hb=>fun e=>by
      obtain⟨b0,k0,e0,h⟩:=CX4.out.memo i (by rw [←HN.out];exact hin)
      have h1:=cell_lt h.c0
      have h2:w4.heap.size≤b:=hb
      omega))
     have HP5:=Lib.hid hp5
     have HA5:=Lib.hid (And.intro (x5.at a0) (And.intro (x5.at a1) (And.intro (x5.at a2) (And.intro (x5.at a3) (And.intro (x5.at a4) (And.intro (x5.at a5) (x5.at a6)))))))
     have HRW:=Lib.hid (show R<w5.heap.size from by
      obtain⟨b0,k0,e0,h⟩:=CX5.out.memo i (by rw [←HN.out];exact hin)
      exact cell_lt h.c0)
     clear a0 a1 a2 a3 a4 a5 a6 x5 s5 hp5 CX4 XW4 e4
     go_wp2_with fail
     go_loopg [9,69] n (fun gj vk vi wr=> ∃(j:Nat) (u:Value) (ks:List Int),j≤n∧gj=n - j∧vi = .int .i64 j∧u=vk∧Hid (OwnOf Rep.int wr (fun _=>True) w5.heap.size 3 u ks)∧Hid (kindsE D O []=kindsE D (O.drop j) ks∧ks.length=j)∧Hid (CkX wr C R es cols)∧Hid (Chg (fun b=>b=R) w5 wr))
     case atStart=>exact⟨0,_,[],by omega,rfl,rfl,rfl,OwnOf.nil _ _ _ _ _,⟨rfl,rfl⟩,CX5.out,Chg.refl _ _⟩
     case round =>
      obtain⟨j,u,ks,hj,rfl,rfl,rfl,OW,HK,CX6,CH⟩:=hrel
      by_cases hjn:j<n
      ·obtain⟨b2,o2,rfl⟩:=HP5.out (by decide) (by omega)
       have hjl:j<O.length:=by have:=HNO.out;omega
       have sv:=S5.out
       obtain⟨d0,-⟩:=int_at sv j hjl
       replace d0:=on_some.1 d0
       have dR:=d0.1
       replace d0:=d0.2
       replace d0:=CH.out.at d0 dR
       have hdj:decide ((j:Int)<(n:Int))=true:=by simp;omega
       have hzi:=HLJ.out O[j] (List.getElem_mem hjl)
       have HDROP:=Lib.hid (show O.drop j=O[j]::O.drop (j+1)from List.drop_eq_getElem_cons hjl)
       generalize O[j]=z at d0 HDROP hzi dR
       obtain⟨m,rfl⟩ : ∃m:Nat,z=m:=⟨z.toNat,by omega⟩
       have hmi:m<i:=by omega
       have HDM:=Lib.hid (show D.getD ((m:Int)).toNat (0,0)=resE es cols m from HDR.out m (by omega) (by omega))
       have ed:=cell_lt d0
       have hkl:ks.length≤2:=by have:=HK.out.2;omega
       clear sv hjl hzi dR
       go_wp2_with fail
       refine(HIH.out m hmi _ CX6.out).mono ?_
       rintro e w7 ⟨rfl,cx7,ch7⟩
       have CX7:=Lib.hid cx7
       have CH7:=Lib.hid (CH.out.trans ch7)
       have OW7:=Lib.hid (OW.out.chg flat_int ch7 (fun b hb e=>by have h1:=(OW.out.lt b hb).1;have h2:=HRW.out;omega))
       obtain⟨km,hkm⟩ : ∃z,z=(resE es cols m).1:=⟨_,rfl⟩
       obtain⟨em,hem⟩ : ∃z,z=(resE es cols m).2:=⟨_,rfl⟩
       rw [←hkm,←hem]
       have HKM:=Lib.hid (And.intro hkm hem)
       clear cx7 ch7 hkm hem CX6 CH OW d0 ed
       by_cases hz:em=0
       ·have bz:(em != 0)=false:=by simp [hz]
        have bz2:(em==0)=true:=by simp [hz]
        have HK2:=Lib.hid (show kindsE D O []=kindsE D (O.drop (j+1)) (ks ++ [km])from by
         rw [HK.out.1,HDROP.out,kindsE,HDM.out,if_neg (by rw [←HKM.out.2];simp [hz]),←HKM.out.1])
        have HKO:=Lib.hid (show okI km from by rw [HKM.out.1];exact HRO.out m)
        have B1:ks.length+1≤maxLen:=by unfold maxLen;omega
        have B2:(ks.length+1)*8≤140737488355328:=by omega
        have XS:=Lib.hid CH7.out.size
        clear hz
        go_wp2_with (at_builtin;go_loud (refine wpList_append_one Rep.int (fun _=>True) rfl _ _ 29 rfl w5.heap.size 3 i3 _ 8 Tryz.underlying29 hi3 hz30 hz31 hz32 rfl (by decide) u ks rfl (OW7.out.ext ((Ext.refl w7).alloc _)) ⟨w7.heap.size,0,none⟩ 1 km [.int .i64 km] rfl ⟨rfl,HKO.out⟩ (by exact cells_new w7 [.int .i64 km] _) B1 B2 (by exact Nat.le_trans XS.out ((Ext.refl w7).alloc _).size) ?_))
        intro g3 cap3 w8 own gr _
        have OW8:=Lib.hid own
        have CH8:=Lib.hid ((CH7.out.alloc (.cells #[.int .i64 km] 3)).grown gr (fun b hb=> .inr (OW7.out.lt b hb).1))
        have CX8:=Lib.hid (CX5.out.chg CH8.out ((CX7.out.memo.ext ((Ext.refl w7).alloc (.cells #[.int .i64 km] 3))).grown gr (fun e=>by have h1:=(OW7.out.lt R e).1;have h2:=HRW.out;omega)))
        clear own gr
        go_wp2_with fail
        go_roundg (n - (j+1))
        case measure=>omega
        case rel=>exact⟨j+1,_,ks ++ [km],by omega,rfl,by go_num,rfl,OW8.out,⟨HK2.out,by rw [List.length_append,HK.out.2];rfl⟩,CX8.out,CH8.out⟩
       ·have bz:(em != 0)=true:=by simp [hz]
        have bz2:(em==0)=false:=by simp [hz]
        have HR:=Lib.hid (show chkStep cols D ⟨xo,xa,xb,xc,⟨xk,xn,xs⟩⟩=(0,em)from by
         have h1:(kindsE D O []).2=em:=by rw [HK.out.1,HDROP.out,kindsE,HDM.out,if_pos (by rw [←HKM.out.2];exact hz),←HKM.out.2]
         unfold chkStep
         rw [if_neg HHEAD.out,if_neg HLEG2.out,if_neg HCOL.out,←HO.out,h1,if_pos hz])
        clear hz
        go_wp2_with fail
        exact bodyPost_ret (v:= .tuple #[.int .i64 0,.int .i64 em]) (by simp [results,Tryz.results301,go_sem]) rfl ⟨by rw [HR.out],CX7.out,(XW5.out.chg _).trans CH7.out⟩
      ·have hjn2:j=n:=by omega
       have hdj : ¬(j:Int)<(n:Int):=by omega
       have hk0:kindsE D O []=(ks,0):=by rw [HK.out.1,hjn2,HNO.out,List.drop_length];rfl
       have HR:=Lib.hid (show chkStep cols D ⟨xo,xa,xb,xc,⟨xk,xn,xs⟩⟩=combineE ⟨xo,xa,xb,xc,⟨xk,xn,xs⟩⟩ ks cols from by
        unfold chkStep
        rw [if_neg HHEAD.out,if_neg HLEG2.out,if_neg HCOL.out,←HO.out,hk0,if_neg (by simp)])
       have hkl:ks.length=(arityE xo).toNat:=by rw [HK.out.2,hjn2,HOL.out]
       have HKL:=Lib.hid hkl
       have a0:=CH.out.at HA5.out.1 HER.out
       have a1:=CH.out.at HA5.out.2.1 HER.out
       have a2:=CH.out.at HA5.out.2.2.1 HER.out
       have a3:=CH.out.at HA5.out.2.2.2.1 HER.out
       have a4:=CH.out.at HA5.out.2.2.2.2.1 HER.out
       have a5:=CH.out.at HA5.out.2.2.2.2.2.1 HER.out
       have a6:=CH.out.at HA5.out.2.2.2.2.2.2 HER.out
       have ea:=cell_lt a0
       obtain⟨vq,g0,g1⟩:=CX6.out.cc
       have HCC:=Lib.hid (And.intro g0 (g1.ext (on_sub _ _)))
       clear hjn2 hk0 hkl g0 g1 hj hjn
       go_wp2_with fail
       refine(combineT_any C ⟨xo,xa,xb,xc,⟨xk,xn,xs⟩⟩ _ vq ks cols _ HCC.out.1 HCC.out.2 OW.out.slice (by have:=HAR.out;omega) HKL.out (fun h=>by have h2:=HCOL.out;dsimp only at h ⊢;exact⟨by omega,by omega⟩)).mono ?_
       rintro e w9 ⟨rfl,x9⟩
       rw [←HR.out]
       have X9:=Lib.hid x9
       clear x9
       go_wp2_with fail
       exact bodyPost_ret (v:= .tuple #[.int .i64 (chkStep cols D ⟨xo,xa,xb,xc,⟨xk,xn,xs⟩⟩).1,.int .i64 (chkStep cols D ⟨xo,xa,xb,xc,⟨xk,xn,xs⟩⟩).2]) (by simp [results,Tryz.results301,go_sem]) rfl ⟨rfl,CX6.out.ext X9.out,(XW5.out.chg _).trans (CH.out.trans (X9.out.chg _))⟩
    ·have b2:(xo==2)=false:=by simp [hx2]
     have HCOL:=Lib.hid (show ¬(xo=2∧(xc<0∨(cols.length:Int)≤xc))from fun h=>hx2 h.1)
     clear hx2
     go_wp2_with fail
     go_big_region_o
     go_wp2_with fail
     refine(operands_new ⟨xo,xa,xb,xc,⟨xk,xn,xs⟩⟩ HOK.out.1.1 HOK.out.1.2 _).mono ?_
     rintro e w5 ⟨v5,rfl,s5,x5⟩
     replace x5:Ext w4 w5:=(Ext.refl w4).drew.trans x5
     have CX5:=Lib.hid (CX4.out.ext x5)
     have XW5:=Lib.hid (XW4.out.trans x5)
     rw [←HO.out]at s5
     obtain⟨p5,d5,rfl,_,_,hp5⟩:=s5.form
     rw [←HNO.out]at s5 hp5 ⊢
     have S5:=Lib.hid (show SliceOf Rep.int (on w5 fun b=>b≠R) (.slice p5 n d5) O from s5.ext (on_mono w5 fun b _ hb=>fun e=>by
      obtain⟨b0,k0,e0,h⟩:=CX4.out.memo i (by rw [←HN.out];exact hin)
      have h1:=cell_lt h.c0
      have h2:w4.heap.size≤b:=hb
      omega))
     have HP5:=Lib.hid hp5
     have HA5:=Lib.hid (And.intro (x5.at a0) (And.intro (x5.at a1) (And.intro (x5.at a2) (And.intro (x5.at a3) (And.intro (x5.at a4) (And.intro (x5.at a5) (x5.at a6)))))))
     have HRW:=Lib.hid (show R<w5.heap.size from by
      obtain⟨b0,k0,e0,h⟩:=CX5.out.memo i (by rw [←HN.out];exact hin)
      exact cell_lt h.c0)
     clear a0 a1 a2 a3 a4 a5 a6 x5 s5 hp5 CX4 XW4 e4
     go_wp2_with fail
     go_loopg [9,69] n (fun gj vk vi wr=> ∃(j:Nat) (u:Value) (ks:List Int),j≤n∧gj=n - j∧vi = .int .i64 j∧u=vk∧Hid (OwnOf Rep.int wr (fun _=>True) w5.heap.size 3 u ks)∧Hid (kindsE D O []=kindsE D (O.drop j) ks∧ks.length=j)∧Hid (CkX wr C R es cols)∧Hid (Chg (fun b=>b=R) w5 wr))
     case atStart=>exact⟨0,_,[],by omega,rfl,rfl,rfl,OwnOf.nil _ _ _ _ _,⟨rfl,rfl⟩,CX5.out,Chg.refl _ _⟩
     case round =>
      obtain⟨j,u,ks,hj,rfl,rfl,rfl,OW,HK,CX6,CH⟩:=hrel
      by_cases hjn:j<n
      ·obtain⟨b2,o2,rfl⟩:=HP5.out (by decide) (by omega)
       have hjl:j<O.length:=by have:=HNO.out;omega
       have sv:=S5.out
       obtain⟨d0,-⟩:=int_at sv j hjl
       replace d0:=on_some.1 d0
       have dR:=d0.1
       replace d0:=d0.2
       replace d0:=CH.out.at d0 dR
       have hdj:decide ((j:Int)<(n:Int))=true:=by simp;omega
       have hzi:=HLJ.out O[j] (List.getElem_mem hjl)
       have HDROP:=Lib.hid (show O.drop j=O[j]::O.drop (j+1)from List.drop_eq_getElem_cons hjl)
       generalize O[j]=z at d0 HDROP hzi dR
       obtain⟨m,rfl⟩ : ∃m:Nat,z=m:=⟨z.toNat,by omega⟩
       have hmi:m<i:=by omega
       have HDM:=Lib.hid (show D.getD ((m:Int)).toNat (0,0)=resE es cols m from HDR.out m (by omega) (by omega))
       have ed:=cell_lt d0
       have hkl:ks.length≤2:=by have:=HK.out.2;omega
       clear sv hjl hzi dR
       go_wp2_with fail
       refine(HIH.out m hmi _ CX6.out).mono ?_
       rintro e w7 ⟨rfl,cx7,ch7⟩
       have CX7:=Lib.hid cx7
       have CH7:=Lib.hid (CH.out.trans ch7)
       have OW7:=Lib.hid (OW.out.chg flat_int ch7 (fun b hb e=>by have h1:=(OW.out.lt b hb).1;have h2:=HRW.out;omega))
       obtain⟨km,hkm⟩ : ∃z,z=(resE es cols m).1:=⟨_,rfl⟩
       obtain⟨em,hem⟩ : ∃z,z=(resE es cols m).2:=⟨_,rfl⟩
       rw [←hkm,←hem]
       have HKM:=Lib.hid (And.intro hkm hem)
       clear cx7 ch7 hkm hem CX6 CH OW d0 ed
       by_cases hz:em=0
       ·have bz:(em != 0)=false:=by simp [hz]
        have bz2:(em==0)=true:=by simp [hz]
        have HK2:=Lib.hid (show kindsE D O []=kindsE D (O.drop (j+1)) (ks ++ [km])from by
         rw [HK.out.1,HDROP.out,kindsE,HDM.out,if_neg (by rw [←HKM.out.2];simp [hz]),←HKM.out.1])
        have HKO:=Lib.hid (show okI km from by rw [HKM.out.1];exact HRO.out m)
        have B1:ks.length+1≤maxLen:=by unfold maxLen;omega
        have B2:(ks.length+1)*8≤140737488355328:=by omega
        have XS:=Lib.hid CH7.out.size
        clear hz
        go_wp2_with (at_builtin;go_loud (refine wpList_append_one Rep.int (fun _=>True) rfl _ _ 29 rfl w5.heap.size 3 i3 _ 8 Tryz.underlying29 hi3 hz30 hz31 hz32 rfl (by decide) u ks rfl (OW7.out.ext ((Ext.refl w7).alloc _)) ⟨w7.heap.size,0,none⟩ 1 km [.int .i64 km] rfl ⟨rfl,HKO.out⟩ (by exact cells_new w7 [.int .i64 km] _) B1 B2 (by exact Nat.le_trans XS.out ((Ext.refl w7).alloc _).size) ?_))
        intro g3 cap3 w8 own gr _
        have OW8:=Lib.hid own
        have CH8:=Lib.hid ((CH7.out.alloc (.cells #[.int .i64 km] 3)).grown gr (fun b hb=> .inr (OW7.out.lt b hb).1))
        have CX8:=Lib.hid (CX5.out.chg CH8.out ((CX7.out.memo.ext ((Ext.refl w7).alloc (.cells #[.int .i64 km] 3))).grown gr (fun e=>by have h1:=(OW7.out.lt R e).1;have h2:=HRW.out;omega)))
        clear own gr
        go_wp2_with fail
        go_roundg (n - (j+1))
        case measure=>omega
        case rel=>exact⟨j+1,_,ks ++ [km],by omega,rfl,by go_num,rfl,OW8.out,⟨HK2.out,by rw [List.length_append,HK.out.2];rfl⟩,CX8.out,CH8.out⟩
       ·have bz:(em != 0)=true:=by simp [hz]
        have bz2:(em==0)=false:=by simp [hz]
        have HR:=Lib.hid (show chkStep cols D ⟨xo,xa,xb,xc,⟨xk,xn,xs⟩⟩=(0,em)from by
         have h1:(kindsE D O []).2=em:=by rw [HK.out.1,HDROP.out,kindsE,HDM.out,if_pos (by rw [←HKM.out.2];exact hz),←HKM.out.2]
         unfold chkStep
         rw [if_neg HHEAD.out,if_neg HLEG2.out,if_neg HCOL.out,←HO.out,h1,if_pos hz])
        clear hz
        go_wp2_with fail
        exact bodyPost_ret (v:= .tuple #[.int .i64 0,.int .i64 em]) (by simp [results,Tryz.results301,go_sem]) rfl ⟨by rw [HR.out],CX7.out,(XW5.out.chg _).trans CH7.out⟩
      ·have hjn2:j=n:=by omega
       have hdj : ¬(j:Int)<(n:Int):=by omega
       have hk0:kindsE D O []=(ks,0):=by rw [HK.out.1,hjn2,HNO.out,List.drop_length];rfl
       have HR:=Lib.hid (show chkStep cols D ⟨xo,xa,xb,xc,⟨xk,xn,xs⟩⟩=combineE ⟨xo,xa,xb,xc,⟨xk,xn,xs⟩⟩ ks cols from by
        unfold chkStep
        rw [if_neg HHEAD.out,if_neg HLEG2.out,if_neg HCOL.out,←HO.out,hk0,if_neg (by simp)])
       have hkl:ks.length=(arityE xo).toNat:=by rw [HK.out.2,hjn2,HOL.out]
       have HKL:=Lib.hid hkl
       have a0:=CH.out.at HA5.out.1 HER.out
       have a1:=CH.out.at HA5.out.2.1 HER.out
       have a2:=CH.out.at HA5.out.2.2.1 HER.out
       have a3:=CH.out.at HA5.out.2.2.2.1 HER.out
       have a4:=CH.out.at HA5.out.2.2.2.2.1 HER.out
       have a5:=CH.out.at HA5.out.2.2.2.2.2.1 HER.out
       have a6:=CH.out.at HA5.out.2.2.2.2.2.2 HER.out
       have ea:=cell_lt a0
       obtain⟨vq,g0,g1⟩:=CX6.out.cc
       have HCC:=Lib.hid (And.intro g0 (g1.ext (on_sub _ _)))
       clear hjn2 hk0 hkl g0 g1 hj hjn
       go_wp2_with fail
       refine(combineT_any C ⟨xo,xa,xb,xc,⟨xk,xn,xs⟩⟩ _ vq ks cols _ HCC.out.1 HCC.out.2 OW.out.slice (by have:=HAR.out;omega) HKL.out (fun h=>by have h2:=HCOL.out;dsimp only at h ⊢;exact⟨by omega,by omega⟩)).mono ?_
       rintro e w9 ⟨rfl,x9⟩
       rw [←HR.out]
       have X9:=Lib.hid x9
       clear x9
       go_wp2_with fail
       exact bodyPost_ret (v:= .tuple #[.int .i64 (chkStep cols D ⟨xo,xa,xb,xc,⟨xk,xn,xs⟩⟩).1,.int .i64 (chkStep cols D ⟨xo,xa,xb,xc,⟨xk,xn,xs⟩⟩).2]) (by simp [results,Tryz.results301,go_sem]) rfl ⟨rfl,CX6.out.ext X9.out,(XW5.out.chg _).trans (CH.out.trans (X9.out.chg _))⟩
 ·have b1:(xo==1)=false:=by simp [hx1]
  have HHEAD:=Lib.hid (show ¬(arityE xo<0∨(xo=1∧validV ⟨xk,xn,xs⟩=false))from fun h=>h.elim HAR.out fun h=>hx1 h.1)
  clear hx1
  have CX2:=Lib.hid CX.out
  have XW2:=Lib.hid XW.out
  obtain⟨w2,rfl⟩ : ∃z,z=W:=⟨W,rfl⟩
  clear CX XW
  have e2:=cell_lt a0
  have HA2:=Lib.hid (And.intro a0 (And.intro a1 (And.intro a2 (And.intro a3 (And.intro a4 (And.intro a5 a6))))))
  go_wp2_with fail
  refine(operands_any ⟨xo,xa,xb,xc,⟨xk,xn,xs⟩⟩ HOK.out.1.1 HOK.out.1.2 _).mono ?_
  rintro e w4 ⟨v4,rfl,s4,x4⟩
  clear a0 a1 a2 a3 a4 a5 a6 e2 HA eE
  have a0:=x4.at HA2.out.1
  have a1:=x4.at HA2.out.2.1
  have a2:=x4.at HA2.out.2.2.1
  have a3:=x4.at HA2.out.2.2.2.1
  have a4:=x4.at HA2.out.2.2.2.2.1
  have a5:=x4.at HA2.out.2.2.2.2.2.1
  have a6:=x4.at HA2.out.2.2.2.2.2.2
  have e4:=cell_lt a0
  have CX4:=Lib.hid (CX2.out.ext x4)
  have XW4:=Lib.hid (XW2.out.trans x4)
  obtain⟨p4,d4,rfl,_,_,hp4⟩:=s4.form
  have hleg:=legalE_iff i ⟨xo,xa,xb,xc,⟨xk,xn,xs⟩⟩
  have hol:=opsE_len ⟨xo,xa,xb,xc,⟨xk,xn,xs⟩⟩
  obtain⟨O,hO⟩ : ∃O,O=opsE ⟨xo,xa,xb,xc,⟨xk,xn,xs⟩⟩:=⟨_,rfl⟩
  rw [←hO]at hleg hol s4 hp4 ⊢
  obtain⟨n,hn⟩ : ∃n,n=O.length:=⟨_,rfl⟩
  rw [←hn]at hol s4 hp4 ⊢
  dsimp only at hol
  have hn2:n≤2:=by omega
  have HLEG:=Lib.hid hleg
  have HOL:=Lib.hid hol
  have HO:=Lib.hid hO
  have HNO:=Lib.hid hn
  have S4:=Lib.hid s4
  have HP4:=Lib.hid hp4
  clear x4 hleg hol hO hn s4 hp4 CX2 XW2
  go_wp2_with fail
  go_loopg [39] n (fun gj vi wr=> ∃(j:Nat),j≤n∧gj=n - j∧vi = .int .i64 j∧Hid (∀o∈O.take j,0≤o∧o<i)∧w4=wr)
  case atStart=>exact⟨0,by omega,rfl,rfl,(fun o ho=>by simp at ho),rfl⟩
  case round =>
   obtain⟨j,hj,rfl,rfl,HLJ,rfl⟩:=hrel
   by_cases hjn:j<n
   ·obtain⟨b2,o2,rfl⟩:=HP4.out (by decide) (by omega)
    have hjl:j<O.length:=by have:=HNO.out;omega
    have sv:=S4.out
    obtain⟨d0,-⟩:=int_at sv j hjl
    have hdj:decide ((j:Int)<(n:Int))=true:=by simp;omega
    have HMEM:=Lib.hid (show O[j]∈O from List.getElem_mem hjl)
    have HTK:=Lib.hid (show O.take (j+1)=O.take j ++ [O[j]]from List.take_succ_eq_append_getElem hjl)
    generalize O[j]=z at d0 HTK HMEM
    have ed:=cell_lt d0
    clear sv hjl
    go_wp2_with fail
    refine(legal_any i z _).mono ?_
    rintro e w5 ⟨rfl,rfl⟩
    by_cases hlz:0≤z∧z<i
    ·have hb:(decide (0≤z)&&decide (z<(i:Int)))=true:=by simp;exact hlz
     have HLZ:=Lib.hid hlz
     rw [hb]
     clear hb hlz
     go_wp2_with fail
     go_roundg (n - (j+1))
     case measure=>omega
     case rel =>
      refine⟨j+1,by omega,rfl,by go_num,?_,rfl⟩
      show ∀o∈O.take (j+1),_
      rw [HTK.out]
      intro o ho
      rcases List.mem_append.1 ho with ho | ho
      ·exact HLJ.out o ho
      ·rw [List.mem_singleton]at ho
       rw [ho]
       exact HLZ.out
    ·have hb:(decide (0≤z)&&decide (z<(i:Int)))=false:=by
      rw [Bool.eq_false_iff]
      intro hh
      simp only [Bool.and_eq_true,decide_eq_true_eq]at hh
      exact hlz hh
     have hnl:legalE i ⟨xo,xa,xb,xc,⟨xk,xn,xs⟩⟩=false:=by
      rw [Bool.eq_false_iff]
      intro hh
      exact hlz (HLEG.out.1 hh z HMEM.out)
     have HR:=Lib.hid (show chkStep cols D ⟨xo,xa,xb,xc,⟨xk,xn,xs⟩⟩=(0,10)from by unfold chkStep;rw [if_neg HHEAD.out,HDL.out,if_pos hnl])
     rw [hb]
     clear hb hlz hnl
     go_wp2_with fail
     exact bodyPost_ret (v:= .tuple #[.int .i64 0,.int .i64 10]) (by simp [results,Tryz.results301,go_sem]) rfl ⟨by rw [HR.out],CX4.out,XW4.out.chg _⟩
   ·have hjn2:j=n:=by omega
    have hdj : ¬(j:Int)<(n:Int):=by omega
    have hall:O.take j=O:=by rw [hjn2,HNO.out,List.take_length]
    rw [hall]at HLJ
    have hleg:legalE i ⟨xo,xa,xb,xc,⟨xk,xn,xs⟩⟩=true:=HLEG.out.2 HLJ.out
    have HLEG2:=Lib.hid (show ¬legalE D.length ⟨xo,xa,xb,xc,⟨xk,xn,xs⟩⟩=false from by rw [HDL.out,hleg];decide)
    clear hjn2 hall hleg hj hjn
    have hcase:(xo=2∧xc<0)∨(xo=2∧0≤xc∧(nc:Int)≤xc)∨(xo=2∧0≤xc∧xc<(nc:Int))∨xo≠2:=by omega
    rcases hcase with ⟨hx2,hc2⟩ | ⟨hx2,hc2,hc3⟩ | ⟨hx2,hc2,hc3⟩ | hx2
    ·have b2:(xo==2)=true:=by simp [hx2]
     have b3:decide (xc<0)=true:=decide_eq_true hc2
     have HR:=Lib.hid (show chkStep cols D ⟨xo,xa,xb,xc,⟨xk,xn,xs⟩⟩=(0,10)from by unfold chkStep;rw [if_neg HHEAD.out,if_neg HLEG2.out,if_pos ⟨hx2,.inl hc2⟩])
     obtain⟨vc4,g0,_⟩:=CX4.out.cc
     have gc:=(XW4.out.at HC1.out.1)
     rw [←HNC.out]at gc
     have eg:=cell_lt gc
     clear hx2 g0
     go_wp2_with fail
     go_big_region_o
     go_wp2_with fail
     exact bodyPost_ret (v:= .tuple #[.int .i64 0,.int .i64 10]) (by simp [results,Tryz.results301,go_sem]) rfl ⟨by rw [HR.out],CX4.out.ext (Ext.refl w4).drew,(XW4.out.trans (Ext.refl w4).drew).chg _⟩
    ·have b2:(xo==2)=true:=by simp [hx2]
     have b3:decide (xc<0)=false:=decide_eq_false (by omega)
     have b4:decide ((nc:Int)≤xc)=true:=decide_eq_true hc3
     have HR:=Lib.hid (show chkStep cols D ⟨xo,xa,xb,xc,⟨xk,xn,xs⟩⟩=(0,10)from by unfold chkStep;rw [if_neg HHEAD.out,if_neg HLEG2.out,if_pos ⟨hx2,.inr (by rw [←HNC.out];exact hc3)⟩])
     have hn3 : ¬xc<0:=by omega
     have gc:=(XW4.out.at HC1.out.1)
     rw [←HNC.out]at gc
     have eg:=cell_lt gc
     clear hx2 hc2
     go_wp2_with fail
     go_big_region_o
     go_wp2_with fail
     exact bodyPost_ret (v:= .tuple #[.int .i64 0,.int .i64 10]) (by simp [results,Tryz.results301,go_sem]) rfl ⟨by rw [HR.out],CX4.out.ext (Ext.refl w4).drew,(XW4.out.trans (Ext.refl w4).drew).chg _⟩
    ·have b2:(xo==2)=true:=by simp [hx2]
     have b3:decide (xc<0)=false:=decide_eq_false (by omega)
     have b4:decide ((nc:Int)≤xc)=false:=decide_eq_false (by omega)
     have HCOL:=Lib.hid (show ¬(xo=2∧(xc<0∨(cols.length:Int)≤xc))from fun h=>by have:=HNC.out;omega)
     have hn3 : ¬xc<0:=by omega
     have hn4 : ¬(nc:Int)≤xc:=by omega
     have gc:=(XW4.out.at HC1.out.1)
     rw [←HNC.out]at gc
     have eg:=cell_lt gc
     clear hx2 hc2 hc3
     go_wp2_with fail
     go_big_region_o
     clear gc eg hn3 hn4
     go_wp2_with fail
     refine(operands_new ⟨xo,xa,xb,xc,⟨xk,xn,xs⟩⟩ HOK.out.1.1 HOK.out.1.2 _).mono ?_
     rintro e w5 ⟨v5,rfl,s5,x5⟩
     replace x5:Ext w4 w5:=(Ext.refl w4).drew.trans x5
     have CX5:=Lib.hid (CX4.out.ext x5)
     have XW5:=Lib.hid (XW4.out.trans x5)
     rw [←HO.out]at s5
     obtain⟨p5,d5,rfl,_,_,hp5⟩:=s5.form
     rw [←HNO.out]at s5 hp5 ⊢
     have S5:=Lib.hid (show SliceOf Rep.int (on w5 fun b=>b≠R) (.slice p5 n d5) O from s5.ext (on_mono w5 fun b _ hb=>fun e=>by
      obtain⟨b0,k0,e0,h⟩:=CX4.out.memo i (by rw [←HN.out];exact hin)
      have h1:=cell_lt h.c0
      have h2:w4.heap.size≤b:=hb
      omega))
     have HP5:=Lib.hid hp5
     have HA5:=Lib.hid (And.intro (x5.at a0) (And.intro (x5.at a1) (And.intro (x5.at a2) (And.intro (x5.at a3) (And.intro (x5.at a4) (And.intro (x5.at a5) (x5.at a6)))))))
     have HRW:=Lib.hid (show R<w5.heap.size from by
      obtain⟨b0,k0,e0,h⟩:=CX5.out.memo i (by rw [←HN.out];exact hin)
      exact cell_lt h.c0)
     clear a0 a1 a2 a3 a4 a5 a6 x5 s5 hp5 CX4 XW4 e4
     go_wp2_with fail
     go_loopg [9,69] n (fun gj vk vi wr=> ∃(j:Nat) (u:Value) (ks:List Int),j≤n∧gj=n - j∧vi = .int .i64 j∧u=vk∧Hid (OwnOf Rep.int wr (fun _=>True) w5.heap.size 3 u ks)∧Hid (kindsE D O []=kindsE D (O.drop j) ks∧ks.length=j)∧Hid (CkX wr C R es cols)∧Hid (Chg (fun b=>b=R) w5 wr))
     case atStart=>exact⟨0,_,[],by omega,rfl,rfl,rfl,OwnOf.nil _ _ _ _ _,⟨rfl,rfl⟩,CX5.out,Chg.refl _ _⟩
     case round =>
      obtain⟨j,u,ks,hj,rfl,rfl,rfl,OW,HK,CX6,CH⟩:=hrel
      by_cases hjn:j<n
      ·obtain⟨b2,o2,rfl⟩:=HP5.out (by decide) (by omega)
       have hjl:j<O.length:=by have:=HNO.out;omega
       have sv:=S5.out
       obtain⟨d0,-⟩:=int_at sv j hjl
       replace d0:=on_some.1 d0
       have dR:=d0.1
       replace d0:=d0.2
       replace d0:=CH.out.at d0 dR
       have hdj:decide ((j:Int)<(n:Int))=true:=by simp;omega
       have hzi:=HLJ.out O[j] (List.getElem_mem hjl)
       have HDROP:=Lib.hid (show O.drop j=O[j]::O.drop (j+1)from List.drop_eq_getElem_cons hjl)
       generalize O[j]=z at d0 HDROP hzi dR
       obtain⟨m,rfl⟩ : ∃m:Nat,z=m:=⟨z.toNat,by omega⟩
       have hmi:m<i:=by omega
       have HDM:=Lib.hid (show D.getD ((m:Int)).toNat (0,0)=resE es cols m from HDR.out m (by omega) (by omega))
       have ed:=cell_lt d0
       have hkl:ks.length≤2:=by have:=HK.out.2;omega
       clear sv hjl hzi dR
       go_wp2_with fail
       refine(HIH.out m hmi _ CX6.out).mono ?_
       rintro e w7 ⟨rfl,cx7,ch7⟩
       have CX7:=Lib.hid cx7
       have CH7:=Lib.hid (CH.out.trans ch7)
       have OW7:=Lib.hid (OW.out.chg flat_int ch7 (fun b hb e=>by have h1:=(OW.out.lt b hb).1;have h2:=HRW.out;omega))
       obtain⟨km,hkm⟩ : ∃z,z=(resE es cols m).1:=⟨_,rfl⟩
       obtain⟨em,hem⟩ : ∃z,z=(resE es cols m).2:=⟨_,rfl⟩
       rw [←hkm,←hem]
       have HKM:=Lib.hid (And.intro hkm hem)
       clear cx7 ch7 hkm hem CX6 CH OW d0 ed
       by_cases hz:em=0
       ·have bz:(em != 0)=false:=by simp [hz]
        have bz2:(em==0)=true:=by simp [hz]
        have HK2:=Lib.hid (show kindsE D O []=kindsE D (O.drop (j+1)) (ks ++ [km])from by
         rw [HK.out.1,HDROP.out,kindsE,HDM.out,if_neg (by rw [←HKM.out.2];simp [hz]),←HKM.out.1])
        have HKO:=Lib.hid (show okI km from by rw [HKM.out.1];exact HRO.out m)
        have B1:ks.length+1≤maxLen:=by unfold maxLen;omega
        have B2:(ks.length+1)*8≤140737488355328:=by omega
        have XS:=Lib.hid CH7.out.size
        clear hz
        go_wp2_with (at_builtin;go_loud (refine wpList_append_one Rep.int (fun _=>True) rfl _ _ 29 rfl w5.heap.size 3 i3 _ 8 Tryz.underlying29 hi3 hz30 hz31 hz32 rfl (by decide) u ks rfl (OW7.out.ext ((Ext.refl w7).alloc _)) ⟨w7.heap.size,0,none⟩ 1 km [.int .i64 km] rfl ⟨rfl,HKO.out⟩ (by exact cells_new w7 [.int .i64 km] _) B1 B2 (by exact Nat.le_trans XS.out ((Ext.refl w7).alloc _).size) ?_))
        intro g3 cap3 w8 own gr _
        have OW8:=Lib.hid own
        have CH8:=Lib.hid ((CH7.out.alloc (.cells #[.int .i64 km] 3)).grown gr (fun b hb=> .inr (OW7.out.lt b hb).1))
        have CX8:=Lib.hid (CX5.out.chg CH8.out ((CX7.out.memo.ext ((Ext.refl w7).alloc (.cells #[.int .i64 km] 3))).grown gr (fun e=>by have h1:=(OW7.out.lt R e).1;have h2:=HRW.out;omega)))
        clear own gr
        go_wp2_with fail
        go_roundg (n - (j+1))
        case measure=>omega
        case rel=>exact⟨j+1,_,ks ++ [km],by omega,rfl,by go_num,rfl,OW8.out,⟨HK2.out,by rw [List.length_append,HK.out.2];rfl⟩,CX8.out,CH8.out⟩
       ·have bz:(em != 0)=true:=by simp [hz]
        have bz2:(em==0)=false:=by simp [hz]
        have HR:=Lib.hid (show chkStep cols D ⟨xo,xa,xb,xc,⟨xk,xn,xs⟩⟩=(0,em)from by
         have h1:(kindsE D O []).2=em:=by rw [HK.out.1,HDROP.out,kindsE,HDM.out,if_pos (by rw [←HKM.out.2];exact hz),←HKM.out.2]
         unfold chkStep
         rw [if_neg HHEAD.out,if_neg HLEG2.out,if_neg HCOL.out,←HO.out,h1,if_pos hz])
        clear hz
        go_wp2_with fail
        exact bodyPost_ret (v:= .tuple #[.int .i64 0,.int .i64 em]) (by simp [results,Tryz.results301,go_sem]) rfl ⟨by rw [HR.out],CX7.out,(XW5.out.chg _).trans CH7.out⟩
      ·have hjn2:j=n:=by omega
       have hdj : ¬(j:Int)<(n:Int):=by omega
       have hk0:kindsE D O []=(ks,0):=by rw [HK.out.1,hjn2,HNO.out,List.drop_length];rfl
       have HR:=Lib.hid (show chkStep cols D ⟨xo,xa,xb,xc,⟨xk,xn,xs⟩⟩=combineE ⟨xo,xa,xb,xc,⟨xk,xn,xs⟩⟩ ks cols from by
        unfold chkStep
        rw [if_neg HHEAD.out,if_neg HLEG2.out,if_neg HCOL.out,←HO.out,hk0,if_neg (by simp)])
       have hkl:ks.length=(arityE xo).toNat:=by rw [HK.out.2,hjn2,HOL.out]
       have HKL:=Lib.hid hkl
       have a0:=CH.out.at HA5.out.1 HER.out
       have a1:=CH.out.at HA5.out.2.1 HER.out
       have a2:=CH.out.at HA5.out.2.2.1 HER.out
       have a3:=CH.out.at HA5.out.2.2.2.1 HER.out
       have a4:=CH.out.at HA5.out.2.2.2.2.1 HER.out
       have a5:=CH.out.at HA5.out.2.2.2.2.2.1 HER.out
       have a6:=CH.out.at HA5.out.2.2.2.2.2.2 HER.out
       have ea:=cell_lt a0
       obtain⟨vq,g0,g1⟩:=CX6.out.cc
       have HCC:=Lib.hid (And.intro g0 (g1.ext (on_sub _ _)))
       clear hjn2 hk0 hkl g0 g1 hj hjn
       go_wp2_with fail
       refine(combineT_any C ⟨xo,xa,xb,xc,⟨xk,xn,xs⟩⟩ _ vq ks cols _ HCC.out.1 HCC.out.2 OW.out.slice (by have:=HAR.out;omega) HKL.out (fun h=>by have h2:=HCOL.out;dsimp only at h ⊢;exact⟨by omega,by omega⟩)).mono ?_
       rintro e w9 ⟨rfl,x9⟩
       rw [←HR.out]
       have X9:=Lib.hid x9
       clear x9
       go_wp2_with fail
       exact bodyPost_ret (v:= .tuple #[.int .i64 (chkStep cols D ⟨xo,xa,xb,xc,⟨xk,xn,xs⟩⟩).1,.int .i64 (chkStep cols D ⟨xo,xa,xb,xc,⟨xk,xn,xs⟩⟩).2]) (by simp [results,Tryz.results301,go_sem]) rfl ⟨rfl,CX6.out.ext X9.out,(XW5.out.chg _).trans (CH.out.trans (X9.out.chg _))⟩
    ·have b2:(xo==2)=false:=by simp [hx2]
     have HCOL:=Lib.hid (show ¬(xo=2∧(xc<0∨(cols.length:Int)≤xc))from fun h=>hx2 h.1)
     clear hx2
     go_wp2_with fail
     go_big_region_o
     go_wp2_with fail
     refine(operands_new ⟨xo,xa,xb,xc,⟨xk,xn,xs⟩⟩ HOK.out.1.1 HOK.out.1.2 _).mono ?_
     rintro e w5 ⟨v5,rfl,s5,x5⟩
     replace x5:Ext w4 w5:=(Ext.refl w4).drew.trans x5
     have CX5:=Lib.hid (CX4.out.ext x5)
     have XW5:=Lib.hid (XW4.out.trans x5)
     rw [←HO.out]at s5
     obtain⟨p5,d5,rfl,_,_,hp5⟩:=s5.form
     rw [←HNO.out]at s5 hp5 ⊢
     have S5:=Lib.hid (show SliceOf Rep.int (on w5 fun b=>b≠R) (.slice p5 n d5) O from s5.ext (on_mono w5 fun b _ hb=>fun e=>by
      obtain⟨b0,k0,e0,h⟩:=CX4.out.memo i (by rw [←HN.out];exact hin)
      have h1:=cell_lt h.c0
      have h2:w4.heap.size≤b:=hb
      omega))
     have HP5:=Lib.hid hp5
     have HA5:=Lib.hid (And.intro (x5.at a0) (And.intro (x5.at a1) (And.intro (x5.at a2) (And.intro (x5.at a3) (And.intro (x5.at a4) (And.intro (x5.at a5) (x5.at a6)))))))
     have HRW:=Lib.hid (show R<w5.heap.size from by
      obtain⟨b0,k0,e0,h⟩:=CX5.out.memo i (by rw [←HN.out];exact hin)
      exact cell_lt h.c0)
     clear a0 a1 a2 a3 a4 a5 a6 x5 s5 hp5 CX4 XW4 e4
     go_wp2_with fail
     go_loopg [9,69] n (fun gj vk vi wr=> ∃(j:Nat) (u:Value) (ks:List Int),j≤n∧gj=n - j∧vi = .int .i64 j∧u=vk∧Hid (OwnOf Rep.int wr (fun _=>True) w5.heap.size 3 u ks)∧Hid (kindsE D O []=kindsE D (O.drop j) ks∧ks.length=j)∧Hid (CkX wr C R es cols)∧Hid (Chg (fun b=>b=R) w5 wr))
     case atStart=>exact⟨0,_,[],by omega,rfl,rfl,rfl,OwnOf.nil _ _ _ _ _,⟨rfl,rfl⟩,CX5.out,Chg.refl _ _⟩
     case round =>
      obtain⟨j,u,ks,hj,rfl,rfl,rfl,OW,HK,CX6,CH⟩:=hrel
      by_cases hjn:j<n
      ·obtain⟨b2,o2,rfl⟩:=HP5.out (by decide) (by omega)
       have hjl:j<O.length:=by have:=HNO.out;omega
       have sv:=S5.out
       obtain⟨d0,-⟩:=int_at sv j hjl
       replace d0:=on_some.1 d0
       have dR:=d0.1
       replace d0:=d0.2
       replace d0:=CH.out.at d0 dR
       have hdj:decide ((j:Int)<(n:Int))=true:=by simp;omega
       have hzi:=HLJ.out O[j] (List.getElem_mem hjl)
       have HDROP:=Lib.hid (show O.drop j=O[j]::O.drop (j+1)from List.drop_eq_getElem_cons hjl)
       generalize O[j]=z at d0 HDROP hzi dR
       obtain⟨m,rfl⟩ : ∃m:Nat,z=m:=⟨z.toNat,by omega⟩
       have hmi:m<i:=by omega
       have HDM:=Lib.hid (show D.getD ((m:Int)).toNat (0,0)=resE es cols m from HDR.out m (by omega) (by omega))
       have ed:=cell_lt d0
       have hkl:ks.length≤2:=by have:=HK.out.2;omega
       clear sv hjl hzi dR
       go_wp2_with fail
       refine(HIH.out m hmi _ CX6.out).mono ?_
       rintro e w7 ⟨rfl,cx7,ch7⟩
       have CX7:=Lib.hid cx7
       have CH7:=Lib.hid (CH.out.trans ch7)
       have OW7:=Lib.hid (OW.out.chg flat_int ch7 (fun b hb e=>by have h1:=(OW.out.lt b hb).1;have h2:=HRW.out;omega))
       obtain⟨km,hkm⟩ : ∃z,z=(resE es cols m).1:=⟨_,rfl⟩
       obtain⟨em,hem⟩ : ∃z,z=(resE es cols m).2:=⟨_,rfl⟩
       rw [←hkm,←hem]
       have HKM:=Lib.hid (And.intro hkm hem)
       clear cx7 ch7 hkm hem CX6 CH OW d0 ed
       by_cases hz:em=0
       ·have bz:(em != 0)=false:=by simp [hz]
        have bz2:(em==0)=true:=by simp [hz]
        have HK2:=Lib.hid (show kindsE D O []=kindsE D (O.drop (j+1)) (ks ++ [km])from by
         rw [HK.out.1,HDROP.out,kindsE,HDM.out,if_neg (by rw [←HKM.out.2];simp [hz]),←HKM.out.1])
        have HKO:=Lib.hid (show okI km from by rw [HKM.out.1];exact HRO.out m)
        have B1:ks.length+1≤maxLen:=by unfold maxLen;omega
        have B2:(ks.length+1)*8≤140737488355328:=by omega
        have XS:=Lib.hid CH7.out.size
        clear hz
        go_wp2_with (at_builtin;go_loud (refine wpList_append_one Rep.int (fun _=>True) rfl _ _ 29 rfl w5.heap.size 3 i3 _ 8 Tryz.underlying29 hi3 hz30 hz31 hz32 rfl (by decide) u ks rfl (OW7.out.ext ((Ext.refl w7).alloc _)) ⟨w7.heap.size,0,none⟩ 1 km [.int .i64 km] rfl ⟨rfl,HKO.out⟩ (by exact cells_new w7 [.int .i64 km] _) B1 B2 (by exact Nat.le_trans XS.out ((Ext.refl w7).alloc _).size) ?_))
        intro g3 cap3 w8 own gr _
        have OW8:=Lib.hid own
        have CH8:=Lib.hid ((CH7.out.alloc (.cells #[.int .i64 km] 3)).grown gr (fun b hb=> .inr (OW7.out.lt b hb).1))
        have CX8:=Lib.hid (CX5.out.chg CH8.out ((CX7.out.memo.ext ((Ext.refl w7).alloc (.cells #[.int .i64 km] 3))).grown gr (fun e=>by have h1:=(OW7.out.lt R e).1;have h2:=HRW.out;omega)))
        clear own gr
        go_wp2_with fail
        go_roundg (n - (j+1))
        case measure=>omega
        case rel=>exact⟨j+1,_,ks ++ [km],by omega,rfl,by go_num,rfl,OW8.out,⟨HK2.out,by rw [List.length_append,HK.out.2];rfl⟩,CX8.out,CH8.out⟩
       ·have bz:(em != 0)=true:=by simp [hz]
        have bz2:(em==0)=false:=by simp [hz]
        have HR:=Lib.hid (show chkStep cols D ⟨xo,xa,xb,xc,⟨xk,xn,xs⟩⟩=(0,em)from by
         have h1:(kindsE D O []).2=em:=by rw [HK.out.1,HDROP.out,kindsE,HDM.out,if_pos (by rw [←HKM.out.2];exact hz),←HKM.out.2]
         unfold chkStep
         rw [if_neg HHEAD.out,if_neg HLEG2.out,if_neg HCOL.out,←HO.out,h1,if_pos hz])
        clear hz
        go_wp2_with fail
        exact bodyPost_ret (v:= .tuple #[.int .i64 0,.int .i64 em]) (by simp [results,Tryz.results301,go_sem]) rfl ⟨by rw [HR.out],CX7.out,(XW5.out.chg _).trans CH7.out⟩
      ·have hjn2:j=n:=by omega
       have hdj : ¬(j:Int)<(n:Int):=by omega
       have hk0:kindsE D O []=(ks,0):=by rw [HK.out.1,hjn2,HNO.out,List.drop_length];rfl
       have HR:=Lib.hid (show chkStep cols D ⟨xo,xa,xb,xc,⟨xk,xn,xs⟩⟩=combineE ⟨xo,xa,xb,xc,⟨xk,xn,xs⟩⟩ ks cols from by
        unfold chkStep
        rw [if_neg HHEAD.out,if_neg HLEG2.out,if_neg HCOL.out,←HO.out,hk0,if_neg (by simp)])
       have hkl:ks.length=(arityE xo).toNat:=by rw [HK.out.2,hjn2,HOL.out]
       have HKL:=Lib.hid hkl
       have a0:=CH.out.at HA5.out.1 HER.out
       have a1:=CH.out.at HA5.out.2.1 HER.out
       have a2:=CH.out.at HA5.out.2.2.1 HER.out
       have a3:=CH.out.at HA5.out.2.2.2.1 HER.out
       have a4:=CH.out.at HA5.out.2.2.2.2.1 HER.out
       have a5:=CH.out.at HA5.out.2.2.2.2.2.1 HER.out
       have a6:=CH.out.at HA5.out.2.2.2.2.2.2 HER.out
       have ea:=cell_lt a0
       obtain⟨vq,g0,g1⟩:=CX6.out.cc
       have HCC:=Lib.hid (And.intro g0 (g1.ext (on_sub _ _)))
       clear hjn2 hk0 hkl g0 g1 hj hjn
       go_wp2_with fail
       refine(combineT_any C ⟨xo,xa,xb,xc,⟨xk,xn,xs⟩⟩ _ vq ks cols _ HCC.out.1 HCC.out.2 OW.out.slice (by have:=HAR.out;omega) HKL.out (fun h=>by have h2:=HCOL.out;dsimp only at h ⊢;exact⟨by omega,by omega⟩)).mono ?_
       rintro e w9 ⟨rfl,x9⟩
       rw [←HR.out]
       have X9:=Lib.hid x9
       clear x9
       go_wp2_with fail
       exact bodyPost_ret (v:= .tuple #[.int .i64 (chkStep cols D ⟨xo,xa,xb,xc,⟨xk,xn,xs⟩⟩).1,.int .i64 (chkStep cols D ⟨xo,xa,xb,xc,⟨xk,xn,xs⟩⟩).2]) (by simp [results,Tryz.results301,go_sem]) rfl ⟨rfl,CX6.out.ext X9.out,(XW5.out.chg _).trans (CH.out.trans (X9.out.chg _))⟩
theorem chg_put (w:World) (R i:Nat) (u v z:Value):Chg (fun b=>b=R) w (((w.setCell ⟨R,i*3,none⟩ u).setCell ⟨R,i*3+1,none⟩ v).setCell ⟨R,i*3+2,none⟩ z) :=
 (((Chg.refl (fun b=>b=R) w).setCell (p:=⟨R,i*3,none⟩) (.inl rfl) u).setCell (p:=⟨R,i*3+1,none⟩) (.inl rfl) v).setCell (p:=⟨R,i*3+2,none⟩) (.inl rfl) z
set_option maxRecDepth 100000 in
set_option maxHeartbeats 4000000 in
theorem check_step (C R:Nat) (es:List ExprI) (cols:List Int) (i:Nat) (hi:i<es.length)
  (hD : ∀w,CkX w C R es cols→Calls Tryz.prog 301 #[.pointer (some ⟨C,0,none⟩),.int .i64 i] w fun e w'=>e = .returned (.tuple #[.int .i64 (resE es cols i).1,.int .i64 (resE es cols i).2])∧CkX w' C R es cols∧Chg (fun b=>b=R) w w') :
  CheckLaw C R es cols i:=by
 intro w hX
 have mixed:=mixedA
 have HX:=Lib.hid hX
 have HD:=Lib.hid hD
 have HI:=Lib.hid hi
 obtain⟨b,k,e,hm⟩:=hX.memo i hi
 have hcr:=hX.cr
 obtain⟨N,hN⟩ : ∃z,z=es.length:=⟨_,rfl⟩
 rw [←hN]at hcr
 have HN:=Lib.hid hN
 have HOKB:=Lib.hid hm.ok
 have c0:=hm.c0
 have c1:=hm.c1
 have c2:=hm.c2
 have hii:(i:Int)<(N:Int):=by omega
 have hin:i<N:=by omega
 have e0:=cell_lt c0
 have e1:=cell_lt hcr
 obtain⟨rk,hrk⟩ : ∃z,z=(resE es cols i).1:=⟨_,rfl⟩
 obtain⟨re,hre⟩ : ∃z,z=(resE es cols i).2:=⟨_,rfl⟩
 rw [←hrk,←hre]at HD ⊢
 have HRE:=Lib.hid (show (rk,re)=resE es cols i from by rw [hrk,hre])
 clear hX hm hD hN hi hrk hre
 go_enter Tryz.func254,Tryz.ntmps254
 cases b
 ·go_wp2_with fail
  have X1:=Lib.hid ((Ext.refl w).alloc (.cells #[.bool false,.int .i64 k,.int .i64 e] 380))
  refine(HD.out _ (HX.out.ext X1.out)).mono ?_
  rintro e9 w2 ⟨rfl,cx2,ch2⟩
  obtain⟨b2,k2,e2,hm2⟩:=cx2.memo i HI.out
  have d0:=hm2.c0
  have d1:=hm2.c1
  have d2:=hm2.c2
  have f0:=hm2.f0
  have f1:=hm2.f1
  have f2:=hm2.f2
  have dr:=cx2.cr
  rw [←HN.out]at dr
  have ed:=cell_lt d0
  have er:=cell_lt dr
  have HCH:=Lib.hid ((X1.out.chg _).trans (ch2.trans (chg_put w2 R i (.bool true) (.int .i64 rk) (.int .i64 re))))
  have HCX:=Lib.hid (cx2.chg (chg_put w2 R i (.bool true) (.int .i64 rk) (.int .i64 re)) (cx2.memo.put HI.out rk re HRE.out))
  clear hm2 cx2 ch2 c0 c1 c2 hcr e0 e1
  go_wp2_with fail
  exact bodyPost_ret (v:= .tuple #[.int .i64 rk,.int .i64 re]) (by simp [results,Tryz.results254,go_sem]) rfl ⟨rfl,HCX.out,HCH.out⟩
 ·have hke:=HOKB.out rfl
  rw [←HRE.out]at hke
  injection hke with h1 h2
  subst h1 h2
  have X1:=Lib.hid (((Ext.refl w).alloc (.cells #[.bool true,.int .i64 k,.int .i64 e] 380)).drew)
  go_wp2_with fail
  go_big_region_o
  go_wp2_with fail
  exact bodyPost_ret (v:= .tuple #[.int .i64 k,.int .i64 e]) (by simp [results,Tryz.results254,go_sem]) rfl ⟨rfl,HX.out.ext X1.out,X1.out.chg _⟩
theorem check_all (C R:Nat) (es:List ExprI) (cols:List Int) (hel:es.length≤1000) (hro:ResOk es cols) (i:Nat):i<es.length→CheckLaw C R es cols i:=by
 induction i using Nat.strongRecOn with
 |ind i IH=>exact fun hi=>check_step C R es cols i hi fun w hX=>derive_any C R es cols i hi hel hro (fun j hj=>IH j hj (by omega)) w hX
end Go.Proofs.YtombmdaohcjokaaGreatDoor
