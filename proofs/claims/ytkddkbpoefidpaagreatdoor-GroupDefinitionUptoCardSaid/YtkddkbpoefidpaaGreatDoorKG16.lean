/- joined texts of a proof: RefE -/
import Derived.Test.YtkddkbpoefidpaaGreatDoorKG15
import Derived.Test.YtkddkbpoefidpaaGreatDoorKG12
import Derived.Test.YtkddkbpoefidpaaGreatDoorKG02
namespace Go.Proofs.YtkddkbpoefidpaaGreatDoor
open Go.RowKit
def V3 (w:World) (g o:Nat) (a:Val):Prop:=w.cell? ⟨g,o,none⟩=some (.int .i64 a.kind)∧w.cell? ⟨g,o+1,none⟩=some (.int .i64 a.n)∧w.cell? ⟨g,o+2,none⟩=some (.string a.s)
theorem V3.ext {w w':World} {g o:Nat} {a:Val} (hx:Ext w w') (h:V3 w g o a):V3 w' g o a:=⟨hx.at h.1,hx.at h.2.1,hx.at h.2.2⟩
def ZR (w:World) (g:Nat):Prop:=w.cell? ⟨g,0,none⟩=some (.int .i64 0)∧w.cell? ⟨g,1,none⟩=some (.int .i64 0)∧w.cell? ⟨g,2,none⟩=some (.string ByteArray.empty)∧w.frozen? ⟨g,0,none⟩=false∧w.frozen? ⟨g,1,none⟩=false∧w.frozen? ⟨g,2,none⟩=false
theorem ZR.ext {w w':World} {g:Nat} (hx:Ext w w') (h:ZR w g):ZR w' g :=
 ⟨hx.at h.1,hx.at h.2.1,hx.at h.2.2.1,hx.unfrozen h.1 h.2.2.2.1,hx.unfrozen h.2.1 h.2.2.2.2.1,hx.unfrozen h.2.2.1 h.2.2.2.2.2⟩
theorem legalE_n (i:Nat) (x:ExprI) (n:Int) (h:arityE x.op=n):legalE i x=(([x.a,x.b].take n.toNat).all fun o=>decide (0≤o)&&decide (o<i)):=by
 unfold legalE opsE
 rw [h]
set_option maxHeartbeats 4000000 in
theorem refLegal_any (v:Value) (es:List ExprI) (i:Nat) (w:World) (he:SliceOf Rep.expr w.cell? v es) (hi:i<es.length) (hl:es.length≤1000) :
  Calls Tryz.prog 239 #[v,.int .i64 i] w fun e w'=>e = .returned (.bool (legalE i es[i]))∧w=w':=by
 obtain⟨p,cap,rfl,hc1,hc2,hp⟩:=he.form
 obtain⟨b,o,rfl⟩:=hp (by decide) (by omega)
 obtain⟨c0,c1,c2,_,_,_,_⟩:=expr_at he i hi
 obtain⟨n,hn⟩ : ∃n,arityE es[i].op=n:=⟨_,rfl⟩
 have hle:=legalE_n i es[i] n hn
 have hnr:n = -1∨n=0∨n=1∨n=2:=by have:=arityE_le es[i].op;omega
 rw [hle]
 generalize es[i]=x at c0 c1 c2 hn
 obtain⟨xo,xa,xb,xc,xv⟩:=x
 dsimp only at c0 c1 c2 hn
 have hd:(i:Int)<(es.length:Int):=by omega
 have HN:=Lib.hid hn
 dsimp only
 clear hle hn he hp hc1 hc2
 rcases hnr with rfl | rfl | rfl | rfl
 ·go_enter Tryz.func239,Tryz.ntmps239
  go_wp2_with fail
  refine(refOperands_any xo _).mono ?_
  rintro e w1 ⟨rfl,rfl⟩
  rw [HN.out]
  go_wp2_with fail
  go_ret
  exact⟨rfl,rfl⟩
 ·go_enter Tryz.func239,Tryz.ntmps239
  go_wp2_with fail
  refine(refOperands_any xo _).mono ?_
  rintro e w1 ⟨rfl,rfl⟩
  rw [HN.out]
  go_wp2_with fail
  go_ret
  exact⟨rfl,rfl⟩
 ·have et : [xa,xb].take (1:Int).toNat = [xa]:=rfl
  rw [et,List.all_cons,List.all_nil,Bool.and_true]
  clear et
  by_cases h0:0≤xa
  ·have d0:decide (0≤xa)=true:=decide_eq_true h0
   rw [d0,Bool.true_and]
   obtain⟨q,hq⟩ : ∃q,decide (xa<(i:Int))=q:=⟨_,rfl⟩
   rw [hq]
   cases q
   all_goals
    go_enter Tryz.func239,Tryz.ntmps239
    go_wp2_with fail
    refine(refOperands_any xo _).mono ?_
    rintro e w1 ⟨rfl,rfl⟩
    rw [HN.out]
    go_wp2_with fail
    go_ret
    exact⟨rfl,rfl⟩
  ·have d0:decide (0≤xa)=false:=decide_eq_false h0
   rw [d0,Bool.false_and]
   clear h0
   go_enter Tryz.func239,Tryz.ntmps239
   go_wp2_with fail
   refine(refOperands_any xo _).mono ?_
   rintro e w1 ⟨rfl,rfl⟩
   rw [HN.out]
   go_wp2_with fail
   go_ret
   exact⟨rfl,rfl⟩
 ·have et : [xa,xb].take (2:Int).toNat = [xa,xb]:=rfl
  rw [et,List.all_cons,List.all_cons,List.all_nil,Bool.and_true]
  clear et
  by_cases h0:0≤xa
  ·have d0:decide (0≤xa)=true:=decide_eq_true h0
   rw [d0,Bool.true_and]
   by_cases h1:xa<(i:Int)
   ·have d1:decide (xa<(i:Int))=true:=decide_eq_true h1
    rw [d1,Bool.true_and]
    by_cases h2:0≤xb
    ·have d2:decide (0≤xb)=true:=decide_eq_true h2
     rw [d2,Bool.true_and]
     obtain⟨q,hq⟩ : ∃q,decide (xb<(i:Int))=q:=⟨_,rfl⟩
     rw [hq]
     cases q
     all_goals
      go_enter Tryz.func239,Tryz.ntmps239
      go_wp2_with fail
      refine(refOperands_any xo _).mono ?_
      rintro e w1 ⟨rfl,rfl⟩
      rw [HN.out]
      go_wp2_with fail
      go_ret
      exact⟨rfl,rfl⟩
    ·have d2:decide (0≤xb)=false:=decide_eq_false h2
     rw [d2,Bool.false_and]
     clear h2
     go_enter Tryz.func239,Tryz.ntmps239
     go_wp2_with fail
     refine(refOperands_any xo _).mono ?_
     rintro e w1 ⟨rfl,rfl⟩
     rw [HN.out]
     go_wp2_with fail
     go_ret
     exact⟨rfl,rfl⟩
   ·have d1:decide (xa<(i:Int))=false:=decide_eq_false h1
    rw [d1,Bool.false_and]
    clear h1
    go_enter Tryz.func239,Tryz.ntmps239
    go_wp2_with fail
    refine(refOperands_any xo _).mono ?_
    rintro e w1 ⟨rfl,rfl⟩
    rw [HN.out]
    go_wp2_with fail
    go_ret
    exact⟨rfl,rfl⟩
  ·have d0:decide (0≤xa)=false:=decide_eq_false h0
   rw [d0,Bool.false_and]
   clear h0
   go_enter Tryz.func239,Tryz.ntmps239
   go_wp2_with fail
   refine(refOperands_any xo _).mono ?_
   rintro e w1 ⟨rfl,rfl⟩
   rw [HN.out]
   go_wp2_with fail
   go_ret
   exact⟨rfl,rfl⟩
set_option maxRecDepth 100000 in
set_option maxHeartbeats 8000000 in
theorem refEval_const (v:Value) (es:List ExprI) (i:Nat) (hi:i<es.length) (hl:es.length≤1000) (x:ExprI) (hx:es[i]=x) (hop:x.op=1) (hleg:legalE i es[i]=true) (bd od nd cd:Nat) (vr:Value) (w:World) (he:SliceOf Rep.expr w.cell? v es) :
  Calls Tryz.prog 169 #[v,.int .i64 i,vr,.slice (some ⟨bd,od,none⟩) nd cd] w fun e w'=>e = .returned (valV (x.c))∧Ext w w':=by
 obtain⟨p,cap,rfl,hc1,hc2,hp⟩:=he.form
 obtain⟨be,oe,rfl⟩:=hp (by decide) (by omega)
 obtain⟨k0,k1,k2,k3,k4,k5,k6⟩:=expr_at he i hi
 rw [hx]at k0 k1 k2 k3 k4 k5 k6
 obtain⟨xo,xa,xb,xc,⟨ck,cn,cs⟩⟩:=x
 dsimp only at k0 k1 k2 k3 k4 k5 k6 hop
 have HE:=Lib.hid he
 have HI:=Lib.hid hi
 have HL:=Lib.hid hl
 have HG:=Lib.hid hleg
 have hiN:(i:Int)<(es.length:Int):=by omega
 have e0:=cell_lt k0
 subst hop
 clear he hl hleg hx hp hc1 hc2
 go_enter Tryz.func169,Tryz.ntmps169
 go_wp2_with fail
 refine(refOperands_any 1 _).mono ?_
 rintro e w1 ⟨rfl,rfl⟩
 rw [show arityE 1=0 from by decide]
 go_wp2_with fail
 refine(refLegal_any _ es i _ (HE.out.ext (((Ext.refl w).alloc _).alloc _).full) HI.out HL.out).mono ?_
 rintro e w2 ⟨rfl,rfl⟩
 rw [HG.out]
 go_wp2_with fail
 exact bodyPost_ret (v:=valV ⟨ck,cn,cs⟩) (by simp [results,Tryz.results169,go_sem,valV]) rfl ⟨rfl,(by repeat (first | exact Ext.refl _ | refine Ext.drewN ?_ _ | refine Ext.alloc ?_ _ | refine ext_set3 ?_ (by omega) _ _ _))⟩
set_option maxRecDepth 100000 in
set_option maxHeartbeats 8000000 in
theorem refEval_col (v:Value) (es:List ExprI) (i:Nat) (hi:i<es.length) (hl:es.length≤1000) (x:ExprI) (hx:es[i]=x) (hop:x.op=2) (hleg:legalE i es[i]=true) (bd od nd cd:Nat) (vr:Value) (w:World) (he:SliceOf Rep.expr w.cell? v es) (row:List Val) (hr:SliceOf Rep.val w.cell? vr row) :
  Calls Tryz.prog 169 #[v,.int .i64 i,vr,.slice (some ⟨bd,od,none⟩) nd cd] w fun e w'=>e = .returned (valV (colAt row x.col))∧Ext w w':=by
 obtain⟨p,cap,rfl,hc1,hc2,hp⟩:=he.form
 obtain⟨be,oe,rfl⟩:=hp (by decide) (by omega)
 obtain⟨k0,k1,k2,k3,k4,k5,k6⟩:=expr_at he i hi
 rw [hx]at k0 k1 k2 k3 k4 k5 k6
 obtain⟨xo,xa,xb,xc,⟨ck,cn,cs⟩⟩:=x
 dsimp only at k0 k1 k2 k3 k4 k5 k6 hop
 have HE:=Lib.hid he
 have HI:=Lib.hid hi
 have HL:=Lib.hid hl
 have HG:=Lib.hid hleg
 have hiN:(i:Int)<(es.length:Int):=by omega
 have e0:=cell_lt k0
 subst hop
 clear he hl hleg hx hp hc1 hc2
 have HR:=Lib.hid hr
 obtain⟨pr,cr,rfl,hr1,hr2,hpr⟩:=hr.form
 by_cases h0:0≤xc
 ·have d0:decide (xc<0)=false:=decide_eq_false (by omega)
  by_cases h1:xc<(row.length:Int)
  ·obtain⟨jc,rfl⟩ : ∃j:Nat,xc=j:=⟨xc.toNat,by omega⟩
   obtain⟨br,orr,rfl⟩:=hpr (by decide) (by omega)
   obtain⟨r0,r1,r2,_⟩:=val_cells hr jc (by omega)
   have hcol:colAt row (jc:Int)=row[jc]:=colAt_in (by omega)
   have er:=cell_lt r0
   have er1:br<w.heap.size+1:=by omega
   have er2:br<w.heap.size+1+1:=by omega
   have er3:br<w.heap.size+1+1+1:=by omega
   dsimp only
   rw [hcol]
   generalize row[jc]=y at r0 r1 r2
   obtain⟨yk,yn,ys⟩:=y
   dsimp only at r0 r1 r2
   have d1:decide ((row.length:Int)≤(jc:Int))=false:=decide_eq_false (by omega)
   clear h0 hcol hr hpr hr1 hr2
   go_enter Tryz.func169,Tryz.ntmps169
   go_wp2_with fail
   refine(refOperands_any 2 _).mono ?_
   rintro e w1 ⟨rfl,rfl⟩
   rw [show arityE 2=0 from by decide]
   go_wp2_with fail
   refine(refLegal_any _ es i _ (HE.out.ext (((Ext.refl w).alloc _).alloc _).full) HI.out HL.out).mono ?_
   rintro e w2 ⟨rfl,rfl⟩
   rw [HG.out]
   go_wp2_with fail
   exact bodyPost_ret (v:=valV ⟨yk,yn,ys⟩) (by simp [results,Tryz.results169,go_sem,valV]) rfl ⟨rfl,(by repeat (first | exact Ext.refl _ | refine Ext.drewN ?_ _ | refine Ext.alloc ?_ _ | refine ext_set3 ?_ (by omega) _ _ _))⟩
  ·have d1:decide ((row.length:Int)≤xc)=true:=decide_eq_true (by omega)
   have hcol:colAt row xc=nV:=colAt_out (by omega)
   dsimp only
   rw [hcol]
   clear h0 h1 hcol hr hpr hr1 hr2
   go_enter Tryz.func169,Tryz.ntmps169
   go_wp2_with fail
   refine(refOperands_any 2 _).mono ?_
   rintro e w1 ⟨rfl,rfl⟩
   rw [show arityE 2=0 from by decide]
   go_wp2_with fail
   refine(refLegal_any _ es i _ (HE.out.ext (((Ext.refl w).alloc _).alloc _).full) HI.out HL.out).mono ?_
   rintro e w2 ⟨rfl,rfl⟩
   rw [HG.out]
   go_wp2_with fail
   exact bodyPost_ret (v:=valV nV) (by simp [results,Tryz.results169,go_sem,valV,nV];rfl) rfl ⟨rfl,(by repeat (first | exact Ext.refl _ | refine Ext.drewN ?_ _ | refine Ext.alloc ?_ _ | refine ext_set3 ?_ (by omega) _ _ _))⟩
 ·have d0:decide (xc<0)=true:=decide_eq_true (by omega)
  have hcol:colAt row xc=nV:=colAt_out (by omega)
  dsimp only
  rw [hcol]
  clear h0 hcol hr hpr hr1 hr2
  go_enter Tryz.func169,Tryz.ntmps169
  go_wp2_with fail
  refine(refOperands_any 2 _).mono ?_
  rintro e w1 ⟨rfl,rfl⟩
  rw [show arityE 2=0 from by decide]
  go_wp2_with fail
  refine(refLegal_any _ es i _ (HE.out.ext (((Ext.refl w).alloc _).alloc _).full) HI.out HL.out).mono ?_
  rintro e w2 ⟨rfl,rfl⟩
  rw [HG.out]
  go_wp2_with fail
  exact bodyPost_ret (v:=valV nV) (by simp [results,Tryz.results169,go_sem,valV,nV];rfl) rfl ⟨rfl,(by repeat (first | exact Ext.refl _ | refine Ext.drewN ?_ _ | refine Ext.alloc ?_ _ | refine ext_set3 ?_ (by omega) _ _ _))⟩
set_option maxRecDepth 100000 in
set_option maxHeartbeats 8000000 in
theorem refEval_none (v:Value) (es:List ExprI) (i:Nat) (hi:i<es.length) (hl:es.length≤1000) (x:ExprI) (hx:es[i]=x) (hop : ¬(1≤x.op∧x.op≤11)) (hleg:legalE i es[i]=true) (bd od nd cd:Nat) (vr:Value) (w:World) (he:SliceOf Rep.expr w.cell? v es) :
  Calls Tryz.prog 169 #[v,.int .i64 i,vr,.slice (some ⟨bd,od,none⟩) nd cd] w fun e w'=>e = .returned (valV (nV))∧Ext w w':=by
 obtain⟨p,cap,rfl,hc1,hc2,hp⟩:=he.form
 obtain⟨be,oe,rfl⟩:=hp (by decide) (by omega)
 obtain⟨k0,k1,k2,k3,k4,k5,k6⟩:=expr_at he i hi
 rw [hx]at k0 k1 k2 k3 k4 k5 k6
 obtain⟨xo,xa,xb,xc,⟨ck,cn,cs⟩⟩:=x
 dsimp only at k0 k1 k2 k3 k4 k5 k6 hop
 have HE:=Lib.hid he
 have HI:=Lib.hid hi
 have HL:=Lib.hid hl
 have HG:=Lib.hid hleg
 have hiN:(i:Int)<(es.length:Int):=by omega
 have e0:=cell_lt k0
 clear he hl hleg hx hp hc1 hc2
 have ha:arityE xo = -1:=by
  unfold arityE
  rw [if_neg (by omega),if_neg (by omega),if_neg (by omega)]
 have HA:=Lib.hid ha
 clear ha hop
 go_enter Tryz.func169,Tryz.ntmps169
 go_wp2_with fail
 refine(refOperands_any xo _).mono ?_
 rintro e w1 ⟨rfl,rfl⟩
 rw [HA.out]
 go_wp2_with fail
 exact bodyPost_ret (v:=valV nV) (by simp [results,Tryz.results169,go_sem,valV,nV];rfl) rfl ⟨rfl,(by repeat (first | exact Ext.refl _ | refine Ext.drewN ?_ _ | refine Ext.alloc ?_ _ | refine ext_set3 ?_ (by omega) _ _ _))⟩
set_option maxRecDepth 100000 in
set_option maxHeartbeats 8000000 in
theorem refEval_illegal (v:Value) (es:List ExprI) (i:Nat) (hi:i<es.length) (hl:es.length≤1000) (x:ExprI) (hx:es[i]=x) (hop:1≤x.op∧x.op≤11) (hleg:legalE i es[i]=false) (bd od nd cd:Nat) (vr:Value) (w:World) (he:SliceOf Rep.expr w.cell? v es) :
  Calls Tryz.prog 169 #[v,.int .i64 i,vr,.slice (some ⟨bd,od,none⟩) nd cd] w fun e w'=>e = .returned (valV (nV))∧Ext w w':=by
 obtain⟨p,cap,rfl,hc1,hc2,hp⟩:=he.form
 obtain⟨be,oe,rfl⟩:=hp (by decide) (by omega)
 obtain⟨k0,k1,k2,k3,k4,k5,k6⟩:=expr_at he i hi
 rw [hx]at k0 k1 k2 k3 k4 k5 k6
 obtain⟨xo,xa,xb,xc,⟨ck,cn,cs⟩⟩:=x
 dsimp only at k0 k1 k2 k3 k4 k5 k6 hop
 have HE:=Lib.hid he
 have HI:=Lib.hid hi
 have HL:=Lib.hid hl
 have HG:=Lib.hid hleg
 have hiN:(i:Int)<(es.length:Int):=by omega
 have e0:=cell_lt k0
 clear he hl hleg hx hp hc1 hc2
 have ha:decide (arityE xo<0)=false:=decide_eq_false (by
  unfold arityE
  (repeat' split) <;> omega)
 clear hop
 go_enter Tryz.func169,Tryz.ntmps169
 go_wp2_with fail
 refine(refOperands_any xo _).mono ?_
 rintro e w1 ⟨rfl,rfl⟩
 obtain⟨n,hn⟩ : ∃n,n=arityE xo:=⟨_,rfl⟩
 rw [←hn]at ha ⊢
 clear hn
 go_wp2_with fail
 refine(refLegal_any _ es i _ (HE.out.ext (((Ext.refl w).alloc _).alloc _).full) HI.out HL.out).mono ?_
 rintro e w2 ⟨rfl,rfl⟩
 rw [HG.out]
 go_wp2_with fail
 exact bodyPost_ret (v:=valV nV) (by simp [results,Tryz.results169,go_sem,valV,nV];rfl) rfl ⟨rfl,(by repeat (first | exact Ext.refl _ | refine Ext.drewN ?_ _ | refine Ext.alloc ?_ _ | refine ext_set3 ?_ (by omega) _ _ _))⟩
set_option maxRecDepth 100000 in
set_option maxHeartbeats 8000000 in
theorem refEval_add (v:Value) (es:List ExprI) (i:Nat) (hi:i<es.length) (hl:es.length≤1000) (x:ExprI) (hx:es[i]=x) (hop:x.op=3) (hleg:legalE i es[i]=true) (bd od nd cd:Nat) (ja:Nat) (a:Val) (hja:x.a=ja∧ja<nd) (jb:Nat) (b:Val) (hjb:x.b=jb∧jb<nd) (vr:Value) (w:World) (he:SliceOf Rep.expr w.cell? v es) (ha:V3 w bd (od+ja*3) a) (hb:V3 w bd (od+jb*3) b) (hoa0:okVal a) (hob0:okVal b) :
  Calls Tryz.prog 169 #[v,.int .i64 i,vr,.slice (some ⟨bd,od,none⟩) nd cd] w fun e w'=>e = .returned (valV (arithV 3 a b))∧Ext w w':=by
 have hoa:=hoa0
 have hob:=hob0
 have HO:=Lib.hid (And.intro hoa hob)
 clear hoa hob hoa0 hob0
 obtain⟨p,cap,rfl,hc1,hc2,hp⟩:=he.form
 obtain⟨be,oe,rfl⟩:=hp (by decide) (by omega)
 obtain⟨k0,k1,k2,k3,k4,k5,k6⟩:=expr_at he i hi
 rw [hx]at k0 k1 k2 k3 k4 k5 k6
 obtain⟨xo,xa,xb,xc,⟨ck,cn,cs⟩⟩:=x
 dsimp only at k0 k1 k2 k3 k4 k5 k6 hop
 dsimp only at hja
 obtain⟨rfl,hja⟩:=hja
 obtain⟨c0,c1,c2⟩:=ha
 obtain⟨ak,an,sa⟩:=a
 dsimp only at c0 c1 c2
 have ea:=cell_lt c0
 have ea1:bd<w.heap.size+1:=by omega
 have ea2:bd<w.heap.size+1+1:=by omega
 have ea3:bd<w.heap.size+1+1+1:=by omega
 have hja2:(ja:Int)<(nd:Int):=by omega
 dsimp only at hjb
 obtain⟨rfl,hjb⟩:=hjb
 obtain⟨m0,m1,m2⟩:=hb
 obtain⟨bk,bn,sb⟩:=b
 dsimp only at m0 m1 m2
 have eb:=cell_lt m0
 have hjb2:(jb:Int)<(nd:Int):=by omega
 have HE:=Lib.hid he
 have HI:=Lib.hid hi
 have HL:=Lib.hid hl
 have HG:=Lib.hid hleg
 have hiN:(i:Int)<(es.length:Int):=by omega
 have e0:=cell_lt k0
 subst hop
 clear he hl hleg hx hp hc1 hc2
 go_enter Tryz.func169,Tryz.ntmps169
 go_wp2_with fail
 refine(refOperands_any 3 _).mono ?_
 rintro e w1 ⟨rfl,rfl⟩
 rw [show arityE 3=2 from by decide]
 go_wp2_with fail
 refine(refLegal_any _ es i _ (HE.out.ext (((Ext.refl w).alloc _).alloc _).full) HI.out HL.out).mono ?_
 rintro e w2 ⟨rfl,rfl⟩
 rw [HG.out]
 go_wp2_with fail
 refine(refArith_any 3 (by decide) ⟨ak,an,sa⟩ ⟨bk,bn,sb⟩ HO.out.1 HO.out.2 _).mono ?_
 rintro e w3 ⟨rfl,x3⟩
 have Z1:=Lib.hid (ZR.ext x3 (g:=w.heap.size) ⟨by go_simp,by go_simp,(by go_simp;rfl),by go_simp,by go_simp,by go_simp⟩)
 have X1:=Lib.hid (Ext.trans (a:=w) (by repeat (first | exact Ext.refl _ | refine Ext.drewN ?_ _ | refine Ext.alloc ?_ _ | refine ext_set3 ?_ (by omega) _ _ _)) x3)
 clear x3
 obtain⟨z,hz⟩ : ∃z,z=arithV 3 ⟨ak,an,sa⟩ ⟨bk,bn,sb⟩:=⟨_,rfl⟩
 have HZ:=Lib.hid hz
 rw [←hz]
 obtain⟨zk,zn,zs⟩:=z
 obtain⟨d0,d1,d2,f0,f1,f2⟩:=Z1.out
 have e9:=cell_lt d0
 clear hz
 unfold valV
 dsimp only
 go_wp2_with fail
 exact bodyPost_ret (v:= .agg #[.int .i64 zk,.int .i64 zn,.string zs]) (by simp [results,Tryz.results169,go_sem,d0,d1,d2]) rfl ⟨congrArg (fun v=>Ending.returned (valV v)) (HZ.out),Below.setCell (Below.setCell (Below.setCell X1.out (Nat.le_refl _) _) (Nat.le_refl _) _) (Nat.le_refl _) _⟩
set_option maxRecDepth 100000 in
set_option maxHeartbeats 8000000 in
theorem refEval_sub (v:Value) (es:List ExprI) (i:Nat) (hi:i<es.length) (hl:es.length≤1000) (x:ExprI) (hx:es[i]=x) (hop:x.op=4) (hleg:legalE i es[i]=true) (bd od nd cd:Nat) (ja:Nat) (a:Val) (hja:x.a=ja∧ja<nd) (jb:Nat) (b:Val) (hjb:x.b=jb∧jb<nd) (vr:Value) (w:World) (he:SliceOf Rep.expr w.cell? v es) (ha:V3 w bd (od+ja*3) a) (hb:V3 w bd (od+jb*3) b) (hoa0:okVal a) (hob0:okVal b) :
  Calls Tryz.prog 169 #[v,.int .i64 i,vr,.slice (some ⟨bd,od,none⟩) nd cd] w fun e w'=>e = .returned (valV (arithV 4 a b))∧Ext w w':=by
 have hoa:=hoa0
 have hob:=hob0
 have HO:=Lib.hid (And.intro hoa hob)
 clear hoa hob hoa0 hob0
 obtain⟨p,cap,rfl,hc1,hc2,hp⟩:=he.form
 obtain⟨be,oe,rfl⟩:=hp (by decide) (by omega)
 obtain⟨k0,k1,k2,k3,k4,k5,k6⟩:=expr_at he i hi
 rw [hx]at k0 k1 k2 k3 k4 k5 k6
 obtain⟨xo,xa,xb,xc,⟨ck,cn,cs⟩⟩:=x
 dsimp only at k0 k1 k2 k3 k4 k5 k6 hop
 dsimp only at hja
 obtain⟨rfl,hja⟩:=hja
 obtain⟨c0,c1,c2⟩:=ha
 obtain⟨ak,an,sa⟩:=a
 dsimp only at c0 c1 c2
 have ea:=cell_lt c0
 have ea1:bd<w.heap.size+1:=by omega
 have ea2:bd<w.heap.size+1+1:=by omega
 have ea3:bd<w.heap.size+1+1+1:=by omega
 have hja2:(ja:Int)<(nd:Int):=by omega
 dsimp only at hjb
 obtain⟨rfl,hjb⟩:=hjb
 obtain⟨m0,m1,m2⟩:=hb
 obtain⟨bk,bn,sb⟩:=b
 dsimp only at m0 m1 m2
 have eb:=cell_lt m0
 have hjb2:(jb:Int)<(nd:Int):=by omega
 have HE:=Lib.hid he
 have HI:=Lib.hid hi
 have HL:=Lib.hid hl
 have HG:=Lib.hid hleg
 have hiN:(i:Int)<(es.length:Int):=by omega
 have e0:=cell_lt k0
 subst hop
 clear he hl hleg hx hp hc1 hc2
 go_enter Tryz.func169,Tryz.ntmps169
 go_wp2_with fail
 refine(refOperands_any 4 _).mono ?_
 rintro e w1 ⟨rfl,rfl⟩
 rw [show arityE 4=2 from by decide]
 go_wp2_with fail
 refine(refLegal_any _ es i _ (HE.out.ext (((Ext.refl w).alloc _).alloc _).full) HI.out HL.out).mono ?_
 rintro e w2 ⟨rfl,rfl⟩
 rw [HG.out]
 go_wp2_with fail
 refine(refArith_any 4 (by decide) ⟨ak,an,sa⟩ ⟨bk,bn,sb⟩ HO.out.1 HO.out.2 _).mono ?_
 rintro e w3 ⟨rfl,x3⟩
 have Z1:=Lib.hid (ZR.ext x3 (g:=w.heap.size) ⟨by go_simp,by go_simp,(by go_simp;rfl),by go_simp,by go_simp,by go_simp⟩)
 have X1:=Lib.hid (Ext.trans (a:=w) (by repeat (first | exact Ext.refl _ | refine Ext.drewN ?_ _ | refine Ext.alloc ?_ _ | refine ext_set3 ?_ (by omega) _ _ _)) x3)
 clear x3
 obtain⟨z,hz⟩ : ∃z,z=arithV 4 ⟨ak,an,sa⟩ ⟨bk,bn,sb⟩:=⟨_,rfl⟩
 have HZ:=Lib.hid hz
 rw [←hz]
 obtain⟨zk,zn,zs⟩:=z
 obtain⟨d0,d1,d2,f0,f1,f2⟩:=Z1.out
 have e9:=cell_lt d0
 clear hz
 unfold valV
 dsimp only
 go_wp2_with fail
 exact bodyPost_ret (v:= .agg #[.int .i64 zk,.int .i64 zn,.string zs]) (by simp [results,Tryz.results169,go_sem,d0,d1,d2]) rfl ⟨congrArg (fun v=>Ending.returned (valV v)) (HZ.out),Below.setCell (Below.setCell (Below.setCell X1.out (Nat.le_refl _) _) (Nat.le_refl _) _) (Nat.le_refl _) _⟩
set_option maxRecDepth 100000 in
set_option maxHeartbeats 8000000 in
theorem refEval_mul (v:Value) (es:List ExprI) (i:Nat) (hi:i<es.length) (hl:es.length≤1000) (x:ExprI) (hx:es[i]=x) (hop:x.op=5) (hleg:legalE i es[i]=true) (bd od nd cd:Nat) (ja:Nat) (a:Val) (hja:x.a=ja∧ja<nd) (jb:Nat) (b:Val) (hjb:x.b=jb∧jb<nd) (vr:Value) (w:World) (he:SliceOf Rep.expr w.cell? v es) (ha:V3 w bd (od+ja*3) a) (hb:V3 w bd (od+jb*3) b) (hoa0:okVal a) (hob0:okVal b) :
  Calls Tryz.prog 169 #[v,.int .i64 i,vr,.slice (some ⟨bd,od,none⟩) nd cd] w fun e w'=>e = .returned (valV (arithV 5 a b))∧Ext w w':=by
 have hoa:=hoa0
 have hob:=hob0
 have HO:=Lib.hid (And.intro hoa hob)
 clear hoa hob hoa0 hob0
 obtain⟨p,cap,rfl,hc1,hc2,hp⟩:=he.form
 obtain⟨be,oe,rfl⟩:=hp (by decide) (by omega)
 obtain⟨k0,k1,k2,k3,k4,k5,k6⟩:=expr_at he i hi
 rw [hx]at k0 k1 k2 k3 k4 k5 k6
 obtain⟨xo,xa,xb,xc,⟨ck,cn,cs⟩⟩:=x
 dsimp only at k0 k1 k2 k3 k4 k5 k6 hop
 dsimp only at hja
 obtain⟨rfl,hja⟩:=hja
 obtain⟨c0,c1,c2⟩:=ha
 obtain⟨ak,an,sa⟩:=a
 dsimp only at c0 c1 c2
 have ea:=cell_lt c0
 have ea1:bd<w.heap.size+1:=by omega
 have ea2:bd<w.heap.size+1+1:=by omega
 have ea3:bd<w.heap.size+1+1+1:=by omega
 have hja2:(ja:Int)<(nd:Int):=by omega
 dsimp only at hjb
 obtain⟨rfl,hjb⟩:=hjb
 obtain⟨m0,m1,m2⟩:=hb
 obtain⟨bk,bn,sb⟩:=b
 dsimp only at m0 m1 m2
 have eb:=cell_lt m0
 have hjb2:(jb:Int)<(nd:Int):=by omega
 have HE:=Lib.hid he
 have HI:=Lib.hid hi
 have HL:=Lib.hid hl
 have HG:=Lib.hid hleg
 have hiN:(i:Int)<(es.length:Int):=by omega
 have e0:=cell_lt k0
 subst hop
 clear he hl hleg hx hp hc1 hc2
 go_enter Tryz.func169,Tryz.ntmps169
 go_wp2_with fail
 refine(refOperands_any 5 _).mono ?_
 rintro e w1 ⟨rfl,rfl⟩
 rw [show arityE 5=2 from by decide]
 go_wp2_with fail
 refine(refLegal_any _ es i _ (HE.out.ext (((Ext.refl w).alloc _).alloc _).full) HI.out HL.out).mono ?_
 rintro e w2 ⟨rfl,rfl⟩
 rw [HG.out]
 go_wp2_with fail
 refine(refArith_any 5 (by decide) ⟨ak,an,sa⟩ ⟨bk,bn,sb⟩ HO.out.1 HO.out.2 _).mono ?_
 rintro e w3 ⟨rfl,x3⟩
 have Z1:=Lib.hid (ZR.ext x3 (g:=w.heap.size) ⟨by go_simp,by go_simp,(by go_simp;rfl),by go_simp,by go_simp,by go_simp⟩)
 have X1:=Lib.hid (Ext.trans (a:=w) (by repeat (first | exact Ext.refl _ | refine Ext.drewN ?_ _ | refine Ext.alloc ?_ _ | refine ext_set3 ?_ (by omega) _ _ _)) x3)
 clear x3
 obtain⟨z,hz⟩ : ∃z,z=arithV 5 ⟨ak,an,sa⟩ ⟨bk,bn,sb⟩:=⟨_,rfl⟩
 have HZ:=Lib.hid hz
 rw [←hz]
 obtain⟨zk,zn,zs⟩:=z
 obtain⟨d0,d1,d2,f0,f1,f2⟩:=Z1.out
 have e9:=cell_lt d0
 clear hz
 unfold valV
 dsimp only
 go_wp2_with fail
 exact bodyPost_ret (v:= .agg #[.int .i64 zk,.int .i64 zn,.string zs]) (by simp [results,Tryz.results169,go_sem,d0,d1,d2]) rfl ⟨congrArg (fun v=>Ending.returned (valV v)) (HZ.out),Below.setCell (Below.setCell (Below.setCell X1.out (Nat.le_refl _) _) (Nat.le_refl _) _) (Nat.le_refl _) _⟩
set_option maxRecDepth 100000 in
set_option maxHeartbeats 8000000 in
theorem refEval_and (v:Value) (es:List ExprI) (i:Nat) (hi:i<es.length) (hl:es.length≤1000) (x:ExprI) (hx:es[i]=x) (hop:x.op=8) (hleg:legalE i es[i]=true) (bd od nd cd:Nat) (ja:Nat) (a:Val) (hja:x.a=ja∧ja<nd) (jb:Nat) (b:Val) (hjb:x.b=jb∧jb<nd) (vr:Value) (w:World) (he:SliceOf Rep.expr w.cell? v es) (ha:V3 w bd (od+ja*3) a) (hb:V3 w bd (od+jb*3) b) :
  Calls Tryz.prog 169 #[v,.int .i64 i,vr,.slice (some ⟨bd,od,none⟩) nd cd] w fun e w'=>e = .returned (valV (boolV (trueV a&&trueV b)))∧Ext w w':=by
 obtain⟨p,cap,rfl,hc1,hc2,hp⟩:=he.form
 obtain⟨be,oe,rfl⟩:=hp (by decide) (by omega)
 obtain⟨k0,k1,k2,k3,k4,k5,k6⟩:=expr_at he i hi
 rw [hx]at k0 k1 k2 k3 k4 k5 k6
 obtain⟨xo,xa,xb,xc,⟨ck,cn,cs⟩⟩:=x
 dsimp only at k0 k1 k2 k3 k4 k5 k6 hop
 dsimp only at hja
 obtain⟨rfl,hja⟩:=hja
 obtain⟨c0,c1,c2⟩:=ha
 obtain⟨ak,an,sa⟩:=a
 dsimp only at c0 c1 c2
 have ea:=cell_lt c0
 have ea1:bd<w.heap.size+1:=by omega
 have ea2:bd<w.heap.size+1+1:=by omega
 have ea3:bd<w.heap.size+1+1+1:=by omega
 have hja2:(ja:Int)<(nd:Int):=by omega
 dsimp only at hjb
 obtain⟨rfl,hjb⟩:=hjb
 obtain⟨m0,m1,m2⟩:=hb
 obtain⟨bk,bn,sb⟩:=b
 dsimp only at m0 m1 m2
 have eb:=cell_lt m0
 have hjb2:(jb:Int)<(nd:Int):=by omega
 have HE:=Lib.hid he
 have HI:=Lib.hid hi
 have HL:=Lib.hid hl
 have HG:=Lib.hid hleg
 have hiN:(i:Int)<(es.length:Int):=by omega
 have e0:=cell_lt k0
 subst hop
 clear he hl hleg hx hp hc1 hc2
 obtain⟨ta,hta⟩ : ∃t,t=trueV ⟨ak,an,sa⟩:=⟨_,rfl⟩
 obtain⟨tb,htb⟩ : ∃t,t=trueV ⟨bk,bn,sb⟩:=⟨_,rfl⟩
 rw [←hta,←htb]
 have HTA:=Lib.hid hta
 have HTB:=Lib.hid htb
 clear hta htb
 cases ta
 ·go_enter Tryz.func169,Tryz.ntmps169
  go_wp2_with fail
  refine(refOperands_any 8 _).mono ?_
  rintro e w1 ⟨rfl,rfl⟩
  rw [show arityE 8=2 from by decide]
  go_wp2_with fail
  refine(refLegal_any _ es i _ (HE.out.ext (((Ext.refl w).alloc _).alloc _).full) HI.out HL.out).mono ?_
  rintro e w2 ⟨rfl,rfl⟩
  rw [HG.out]
  go_wp2_with fail
  refine(refTrue_any ⟨ak,an,sa⟩ _).mono ?_
  rintro e w3 ⟨rfl,x3⟩
  rw [←HTA.out]
  have Z1:=Lib.hid (ZR.ext x3 (g:=w.heap.size) ⟨by go_simp,by go_simp,(by go_simp;rfl),by go_simp,by go_simp,by go_simp⟩)
  have X1:=Lib.hid (Ext.trans (a:=w) (by repeat (first | exact Ext.refl _ | refine Ext.drewN ?_ _ | refine Ext.alloc ?_ _ | refine ext_set3 ?_ (by omega) _ _ _)) x3)
  clear x3
  go_wp2_with fail
  refine(refBoolean_any false _).mono ?_
  rintro e w4 ⟨rfl,x4⟩
  have Z2:=Lib.hid (ZR.ext x4 Z1.out)
  have X2:=Lib.hid (X1.out.trans x4)
  clear Z1 X1
  have Z1:=Lib.hid Z2.out
  have X1:=Lib.hid X2.out
  clear Z2 X2
  clear x4
  obtain⟨z,hz⟩ : ∃z,z=boolV false:=⟨_,rfl⟩
  have HZ:=Lib.hid hz
  rw [←hz]
  obtain⟨zk,zn,zs⟩:=z
  obtain⟨d0,d1,d2,f0,f1,f2⟩:=Z1.out
  have e9:=cell_lt d0
  clear hz
  unfold valV
  dsimp only
  go_wp2_with fail
  exact bodyPost_ret (v:= .agg #[.int .i64 zk,.int .i64 zn,.string zs]) (by simp [results,Tryz.results169,go_sem,d0,d1,d2]) rfl ⟨congrArg (fun v=>Ending.returned (valV v)) (HZ.out),Below.setCell (Below.setCell (Below.setCell X1.out (Nat.le_refl _) _) (Nat.le_refl _) _) (Nat.le_refl _) _⟩
 ·go_enter Tryz.func169,Tryz.ntmps169
  go_wp2_with fail
  refine(refOperands_any 8 _).mono ?_
  rintro e w1 ⟨rfl,rfl⟩
  rw [show arityE 8=2 from by decide]
  go_wp2_with fail
  refine(refLegal_any _ es i _ (HE.out.ext (((Ext.refl w).alloc _).alloc _).full) HI.out HL.out).mono ?_
  rintro e w2 ⟨rfl,rfl⟩
  rw [HG.out]
  go_wp2_with fail
  refine(refTrue_any ⟨ak,an,sa⟩ _).mono ?_
  rintro e w3 ⟨rfl,x3⟩
  rw [←HTA.out]
  have Z1:=Lib.hid (ZR.ext x3 (g:=w.heap.size) ⟨by go_simp,by go_simp,(by go_simp;rfl),by go_simp,by go_simp,by go_simp⟩)
  have B1:=Lib.hid (V3.ext x3 (g:=w.heap.size+3) (o:=0) (a:=⟨bk,bn,sb⟩) ⟨by go_simp,by go_simp,by go_simp⟩)
  have X1:=Lib.hid (Ext.trans (a:=w) (by repeat (first | exact Ext.refl _ | refine Ext.drewN ?_ _ | refine Ext.alloc ?_ _ | refine ext_set3 ?_ (by omega) _ _ _)) x3)
  clear x3
  obtain⟨b0,b1,b2⟩:=B1.out
  dsimp only at b0 b1 b2
  have e3:=cell_lt b0
  go_wp2_with fail
  refine(refTrue_any ⟨bk,bn,sb⟩ _).mono ?_
  rintro e w5 ⟨rfl,x5⟩
  rw [←HTB.out]
  have Z2:=Lib.hid (ZR.ext x5 Z1.out)
  have X2:=Lib.hid (X1.out.trans x5)
  clear Z1 X1
  have Z1:=Lib.hid Z2.out
  have X1:=Lib.hid X2.out
  clear Z2 X2
  clear x5 b0 b1 b2 e3 B1
  cases tb
  ·go_wp2_with fail
   refine(refBoolean_any false _).mono ?_
   rintro e w4 ⟨rfl,x4⟩
   have Z2:=Lib.hid (ZR.ext x4 Z1.out)
   have X2:=Lib.hid (X1.out.trans x4)
   clear Z1 X1
   have Z1:=Lib.hid Z2.out
   have X1:=Lib.hid X2.out
   clear Z2 X2
   clear x4
   obtain⟨z,hz⟩ : ∃z,z=boolV false:=⟨_,rfl⟩
   have HZ:=Lib.hid hz
   rw [←hz]
   obtain⟨zk,zn,zs⟩:=z
   obtain⟨d0,d1,d2,f0,f1,f2⟩:=Z1.out
   have e9:=cell_lt d0
   clear hz
   unfold valV
   dsimp only
   go_wp2_with fail
   exact bodyPost_ret (v:= .agg #[.int .i64 zk,.int .i64 zn,.string zs]) (by simp [results,Tryz.results169,go_sem,d0,d1,d2]) rfl ⟨congrArg (fun v=>Ending.returned (valV v)) (HZ.out),Below.setCell (Below.setCell (Below.setCell X1.out (Nat.le_refl _) _) (Nat.le_refl _) _) (Nat.le_refl _) _⟩
  ·go_wp2_with fail
   refine(refBoolean_any true _).mono ?_
   rintro e w4 ⟨rfl,x4⟩
   have Z2:=Lib.hid (ZR.ext x4 Z1.out)
   have X2:=Lib.hid (X1.out.trans x4)
   clear Z1 X1
   have Z1:=Lib.hid Z2.out
   have X1:=Lib.hid X2.out
   clear Z2 X2
   clear x4
   obtain⟨z,hz⟩ : ∃z,z=boolV true:=⟨_,rfl⟩
   have HZ:=Lib.hid hz
   rw [←hz]
   obtain⟨zk,zn,zs⟩:=z
   obtain⟨d0,d1,d2,f0,f1,f2⟩:=Z1.out
   have e9:=cell_lt d0
   clear hz
   unfold valV
   dsimp only
   go_wp2_with fail
   exact bodyPost_ret (v:= .agg #[.int .i64 zk,.int .i64 zn,.string zs]) (by simp [results,Tryz.results169,go_sem,d0,d1,d2]) rfl ⟨congrArg (fun v=>Ending.returned (valV v)) (HZ.out),Below.setCell (Below.setCell (Below.setCell X1.out (Nat.le_refl _) _) (Nat.le_refl _) _) (Nat.le_refl _) _⟩
set_option maxRecDepth 100000 in
set_option maxHeartbeats 8000000 in
theorem refEval_or (v:Value) (es:List ExprI) (i:Nat) (hi:i<es.length) (hl:es.length≤1000) (x:ExprI) (hx:es[i]=x) (hop:x.op=9) (hleg:legalE i es[i]=true) (bd od nd cd:Nat) (ja:Nat) (a:Val) (hja:x.a=ja∧ja<nd) (jb:Nat) (b:Val) (hjb:x.b=jb∧jb<nd) (vr:Value) (w:World) (he:SliceOf Rep.expr w.cell? v es) (ha:V3 w bd (od+ja*3) a) (hb:V3 w bd (od+jb*3) b) :
  Calls Tryz.prog 169 #[v,.int .i64 i,vr,.slice (some ⟨bd,od,none⟩) nd cd] w fun e w'=>e = .returned (valV (boolV (trueV a||trueV b)))∧Ext w w':=by
 obtain⟨p,cap,rfl,hc1,hc2,hp⟩:=he.form
 obtain⟨be,oe,rfl⟩:=hp (by decide) (by omega)
 obtain⟨k0,k1,k2,k3,k4,k5,k6⟩:=expr_at he i hi
 rw [hx]at k0 k1 k2 k3 k4 k5 k6
 obtain⟨xo,xa,xb,xc,⟨ck,cn,cs⟩⟩:=x
 dsimp only at k0 k1 k2 k3 k4 k5 k6 hop
 dsimp only at hja
 obtain⟨rfl,hja⟩:=hja
 obtain⟨c0,c1,c2⟩:=ha
 obtain⟨ak,an,sa⟩:=a
 dsimp only at c0 c1 c2
 have ea:=cell_lt c0
 have ea1:bd<w.heap.size+1:=by omega
 have ea2:bd<w.heap.size+1+1:=by omega
 have ea3:bd<w.heap.size+1+1+1:=by omega
 have hja2:(ja:Int)<(nd:Int):=by omega
 dsimp only at hjb
 obtain⟨rfl,hjb⟩:=hjb
 obtain⟨m0,m1,m2⟩:=hb
 obtain⟨bk,bn,sb⟩:=b
 dsimp only at m0 m1 m2
 have eb:=cell_lt m0
 have hjb2:(jb:Int)<(nd:Int):=by omega
 have HE:=Lib.hid he
 have HI:=Lib.hid hi
 have HL:=Lib.hid hl
 have HG:=Lib.hid hleg
 have hiN:(i:Int)<(es.length:Int):=by omega
 have e0:=cell_lt k0
 subst hop
 clear he hl hleg hx hp hc1 hc2
 obtain⟨ta,hta⟩ : ∃t,t=trueV ⟨ak,an,sa⟩:=⟨_,rfl⟩
 obtain⟨tb,htb⟩ : ∃t,t=trueV ⟨bk,bn,sb⟩:=⟨_,rfl⟩
 rw [←hta,←htb]
 have HTA:=Lib.hid hta
 have HTB:=Lib.hid htb
 clear hta htb
 cases ta
 ·go_enter Tryz.func169,Tryz.ntmps169
  go_wp2_with fail
  refine(refOperands_any 9 _).mono ?_
  rintro e w1 ⟨rfl,rfl⟩
  rw [show arityE 9=2 from by decide]
  go_wp2_with fail
  refine(refLegal_any _ es i _ (HE.out.ext (((Ext.refl w).alloc _).alloc _).full) HI.out HL.out).mono ?_
  rintro e w2 ⟨rfl,rfl⟩
  rw [HG.out]
  go_wp2_with fail
  refine(refTrue_any ⟨ak,an,sa⟩ _).mono ?_
  rintro e w3 ⟨rfl,x3⟩
  rw [←HTA.out]
  have Z1:=Lib.hid (ZR.ext x3 (g:=w.heap.size) ⟨by go_simp,by go_simp,(by go_simp;rfl),by go_simp,by go_simp,by go_simp⟩)
  have B1:=Lib.hid (V3.ext x3 (g:=w.heap.size+3) (o:=0) (a:=⟨bk,bn,sb⟩) ⟨by go_simp,by go_simp,by go_simp⟩)
  have X1:=Lib.hid (Ext.trans (a:=w) (by repeat (first | exact Ext.refl _ | refine Ext.drewN ?_ _ | refine Ext.alloc ?_ _ | refine ext_set3 ?_ (by omega) _ _ _)) x3)
  clear x3
  obtain⟨b0,b1,b2⟩:=B1.out
  dsimp only at b0 b1 b2
  have e3:=cell_lt b0
  go_wp2_with fail
  refine(refTrue_any ⟨bk,bn,sb⟩ _).mono ?_
  rintro e w5 ⟨rfl,x5⟩
  rw [←HTB.out]
  have Z2:=Lib.hid (ZR.ext x5 Z1.out)
  have X2:=Lib.hid (X1.out.trans x5)
  clear Z1 X1
  have Z1:=Lib.hid Z2.out
  have X1:=Lib.hid X2.out
  clear Z2 X2
  clear x5 b0 b1 b2 e3 B1
  cases tb
  ·go_wp2_with fail
   refine(refBoolean_any false _).mono ?_
   rintro e w4 ⟨rfl,x4⟩
   have Z2:=Lib.hid (ZR.ext x4 Z1.out)
   have X2:=Lib.hid (X1.out.trans x4)
   clear Z1 X1
   have Z1:=Lib.hid Z2.out
   have X1:=Lib.hid X2.out
   clear Z2 X2
   clear x4
   obtain⟨z,hz⟩ : ∃z,z=boolV false:=⟨_,rfl⟩
   have HZ:=Lib.hid hz
   rw [←hz]
   obtain⟨zk,zn,zs⟩:=z
   obtain⟨d0,d1,d2,f0,f1,f2⟩:=Z1.out
   have e9:=cell_lt d0
   clear hz
   unfold valV
   dsimp only
   go_wp2_with fail
   exact bodyPost_ret (v:= .agg #[.int .i64 zk,.int .i64 zn,.string zs]) (by simp [results,Tryz.results169,go_sem,d0,d1,d2]) rfl ⟨congrArg (fun v=>Ending.returned (valV v)) (HZ.out),Below.setCell (Below.setCell (Below.setCell X1.out (Nat.le_refl _) _) (Nat.le_refl _) _) (Nat.le_refl _) _⟩
  ·go_wp2_with fail
   refine(refBoolean_any true _).mono ?_
   rintro e w4 ⟨rfl,x4⟩
   have Z2:=Lib.hid (ZR.ext x4 Z1.out)
   have X2:=Lib.hid (X1.out.trans x4)
   clear Z1 X1
   have Z1:=Lib.hid Z2.out
   have X1:=Lib.hid X2.out
   clear Z2 X2
   clear x4
   obtain⟨z,hz⟩ : ∃z,z=boolV true:=⟨_,rfl⟩
   have HZ:=Lib.hid hz
   rw [←hz]
   obtain⟨zk,zn,zs⟩:=z
   obtain⟨d0,d1,d2,f0,f1,f2⟩:=Z1.out
   have e9:=cell_lt d0
   clear hz
   unfold valV
   dsimp only
   go_wp2_with fail
   exact bodyPost_ret (v:= .agg #[.int .i64 zk,.int .i64 zn,.string zs]) (by simp [results,Tryz.results169,go_sem,d0,d1,d2]) rfl ⟨congrArg (fun v=>Ending.returned (valV v)) (HZ.out),Below.setCell (Below.setCell (Below.setCell X1.out (Nat.le_refl _) _) (Nat.le_refl _) _) (Nat.le_refl _) _⟩
 ·go_enter Tryz.func169,Tryz.ntmps169
  go_wp2_with fail
  refine(refOperands_any 9 _).mono ?_
  rintro e w1 ⟨rfl,rfl⟩
  rw [show arityE 9=2 from by decide]
  go_wp2_with fail
  refine(refLegal_any _ es i _ (HE.out.ext (((Ext.refl w).alloc _).alloc _).full) HI.out HL.out).mono ?_
  rintro e w2 ⟨rfl,rfl⟩
  rw [HG.out]
  go_wp2_with fail
  refine(refTrue_any ⟨ak,an,sa⟩ _).mono ?_
  rintro e w3 ⟨rfl,x3⟩
  rw [←HTA.out]
  have Z1:=Lib.hid (ZR.ext x3 (g:=w.heap.size) ⟨by go_simp,by go_simp,(by go_simp;rfl),by go_simp,by go_simp,by go_simp⟩)
  have X1:=Lib.hid (Ext.trans (a:=w) (by repeat (first | exact Ext.refl _ | refine Ext.drewN ?_ _ | refine Ext.alloc ?_ _ | refine ext_set3 ?_ (by omega) _ _ _)) x3)
  clear x3
  go_wp2_with fail
  refine(refBoolean_any true _).mono ?_
  rintro e w4 ⟨rfl,x4⟩
  have Z2:=Lib.hid (ZR.ext x4 Z1.out)
  have X2:=Lib.hid (X1.out.trans x4)
  clear Z1 X1
  have Z1:=Lib.hid Z2.out
  have X1:=Lib.hid X2.out
  clear Z2 X2
  clear x4
  obtain⟨z,hz⟩ : ∃z,z=boolV true:=⟨_,rfl⟩
  have HZ:=Lib.hid hz
  rw [←hz]
  obtain⟨zk,zn,zs⟩:=z
  obtain⟨d0,d1,d2,f0,f1,f2⟩:=Z1.out
  have e9:=cell_lt d0
  clear hz
  unfold valV
  dsimp only
  go_wp2_with fail
  exact bodyPost_ret (v:= .agg #[.int .i64 zk,.int .i64 zn,.string zs]) (by simp [results,Tryz.results169,go_sem,d0,d1,d2]) rfl ⟨congrArg (fun v=>Ending.returned (valV v)) (HZ.out),Below.setCell (Below.setCell (Below.setCell X1.out (Nat.le_refl _) _) (Nat.le_refl _) _) (Nat.le_refl _) _⟩
set_option maxRecDepth 100000 in
set_option maxHeartbeats 8000000 in
theorem refEval_not (v:Value) (es:List ExprI) (i:Nat) (hi:i<es.length) (hl:es.length≤1000) (x:ExprI) (hx:es[i]=x) (hop:x.op=10) (hleg:legalE i es[i]=true) (bd od nd cd:Nat) (ja:Nat) (a:Val) (hja:x.a=ja∧ja<nd) (vr:Value) (w:World) (he:SliceOf Rep.expr w.cell? v es) (ha:V3 w bd (od+ja*3) a) :
  Calls Tryz.prog 169 #[v,.int .i64 i,vr,.slice (some ⟨bd,od,none⟩) nd cd] w fun e w'=>e = .returned (valV (boolV (!trueV a)))∧Ext w w':=by
 obtain⟨p,cap,rfl,hc1,hc2,hp⟩:=he.form
 obtain⟨be,oe,rfl⟩:=hp (by decide) (by omega)
 obtain⟨k0,k1,k2,k3,k4,k5,k6⟩:=expr_at he i hi
 rw [hx]at k0 k1 k2 k3 k4 k5 k6
 obtain⟨xo,xa,xb,xc,⟨ck,cn,cs⟩⟩:=x
 dsimp only at k0 k1 k2 k3 k4 k5 k6 hop
 dsimp only at hja
 obtain⟨rfl,hja⟩:=hja
 obtain⟨c0,c1,c2⟩:=ha
 obtain⟨ak,an,sa⟩:=a
 dsimp only at c0 c1 c2
 have ea:=cell_lt c0
 have ea1:bd<w.heap.size+1:=by omega
 have ea2:bd<w.heap.size+1+1:=by omega
 have ea3:bd<w.heap.size+1+1+1:=by omega
 have hja2:(ja:Int)<(nd:Int):=by omega
 have HE:=Lib.hid he
 have HI:=Lib.hid hi
 have HL:=Lib.hid hl
 have HG:=Lib.hid hleg
 have hiN:(i:Int)<(es.length:Int):=by omega
 have e0:=cell_lt k0
 subst hop
 clear he hl hleg hx hp hc1 hc2
 obtain⟨ta,hta⟩ : ∃t,t=trueV ⟨ak,an,sa⟩:=⟨_,rfl⟩
 rw [←hta]
 have HTA:=Lib.hid hta
 clear hta
 go_enter Tryz.func169,Tryz.ntmps169
 go_wp2_with fail
 refine(refOperands_any 10 _).mono ?_
 rintro e w1 ⟨rfl,rfl⟩
 rw [show arityE 10=1 from by decide]
 go_wp2_with fail
 refine(refLegal_any _ es i _ (HE.out.ext (((Ext.refl w).alloc _).alloc _).full) HI.out HL.out).mono ?_
 rintro e w2 ⟨rfl,rfl⟩
 rw [HG.out]
 go_wp2_with fail
 refine(refTrue_any ⟨ak,an,sa⟩ _).mono ?_
 rintro e w3 ⟨rfl,x3⟩
 rw [←HTA.out]
 have Z1:=Lib.hid (ZR.ext x3 (g:=w.heap.size) ⟨by go_simp,by go_simp,(by go_simp;rfl),by go_simp,by go_simp,by go_simp⟩)
 have X1:=Lib.hid (Ext.trans (a:=w) (by repeat (first | exact Ext.refl _ | refine Ext.drewN ?_ _ | refine Ext.alloc ?_ _ | refine ext_set3 ?_ (by omega) _ _ _)) x3)
 clear x3
 cases ta
 ·go_wp2_with fail
  refine(refBoolean_any true _).mono ?_
  rintro e w4 ⟨rfl,x4⟩
  have Z2:=Lib.hid (ZR.ext x4 Z1.out)
  have X2:=Lib.hid (X1.out.trans x4)
  clear Z1 X1
  have Z1:=Lib.hid Z2.out
  have X1:=Lib.hid X2.out
  clear Z2 X2
  clear x4
  obtain⟨z,hz⟩ : ∃z,z=boolV true:=⟨_,rfl⟩
  have HZ:=Lib.hid hz
  rw [←hz]
  obtain⟨zk,zn,zs⟩:=z
  obtain⟨d0,d1,d2,f0,f1,f2⟩:=Z1.out
  have e9:=cell_lt d0
  clear hz
  unfold valV
  dsimp only
  go_wp2_with fail
  exact bodyPost_ret (v:= .agg #[.int .i64 zk,.int .i64 zn,.string zs]) (by simp [results,Tryz.results169,go_sem,d0,d1,d2]) rfl ⟨congrArg (fun v=>Ending.returned (valV v)) (HZ.out),Below.setCell (Below.setCell (Below.setCell X1.out (Nat.le_refl _) _) (Nat.le_refl _) _) (Nat.le_refl _) _⟩
 ·go_wp2_with fail
  refine(refBoolean_any false _).mono ?_
  rintro e w4 ⟨rfl,x4⟩
  have Z2:=Lib.hid (ZR.ext x4 Z1.out)
  have X2:=Lib.hid (X1.out.trans x4)
  clear Z1 X1
  have Z1:=Lib.hid Z2.out
  have X1:=Lib.hid X2.out
  clear Z2 X2
  clear x4
  obtain⟨z,hz⟩ : ∃z,z=boolV false:=⟨_,rfl⟩
  have HZ:=Lib.hid hz
  rw [←hz]
  obtain⟨zk,zn,zs⟩:=z
  obtain⟨d0,d1,d2,f0,f1,f2⟩:=Z1.out
  have e9:=cell_lt d0
  clear hz
  unfold valV
  dsimp only
  go_wp2_with fail
  exact bodyPost_ret (v:= .agg #[.int .i64 zk,.int .i64 zn,.string zs]) (by simp [results,Tryz.results169,go_sem,d0,d1,d2]) rfl ⟨congrArg (fun v=>Ending.returned (valV v)) (HZ.out),Below.setCell (Below.setCell (Below.setCell X1.out (Nat.le_refl _) _) (Nat.le_refl _) _) (Nat.le_refl _) _⟩
set_option maxRecDepth 100000 in
set_option maxHeartbeats 8000000 in
theorem refEval_isnull (v:Value) (es:List ExprI) (i:Nat) (hi:i<es.length) (hl:es.length≤1000) (x:ExprI) (hx:es[i]=x) (hop:x.op=11) (hleg:legalE i es[i]=true) (bd od nd cd:Nat) (ja:Nat) (a:Val) (hja:x.a=ja∧ja<nd) (vr:Value) (w:World) (he:SliceOf Rep.expr w.cell? v es) (ha:V3 w bd (od+ja*3) a) :
  Calls Tryz.prog 169 #[v,.int .i64 i,vr,.slice (some ⟨bd,od,none⟩) nd cd] w fun e w'=>e = .returned (valV (boolV (decide (a.kind=0))))∧Ext w w':=by
 obtain⟨p,cap,rfl,hc1,hc2,hp⟩:=he.form
 obtain⟨be,oe,rfl⟩:=hp (by decide) (by omega)
 obtain⟨k0,k1,k2,k3,k4,k5,k6⟩:=expr_at he i hi
 rw [hx]at k0 k1 k2 k3 k4 k5 k6
 obtain⟨xo,xa,xb,xc,⟨ck,cn,cs⟩⟩:=x
 dsimp only at k0 k1 k2 k3 k4 k5 k6 hop
 dsimp only at hja
 obtain⟨rfl,hja⟩:=hja
 obtain⟨c0,c1,c2⟩:=ha
 obtain⟨ak,an,sa⟩:=a
 dsimp only at c0 c1 c2
 have ea:=cell_lt c0
 have ea1:bd<w.heap.size+1:=by omega
 have ea2:bd<w.heap.size+1+1:=by omega
 have ea3:bd<w.heap.size+1+1+1:=by omega
 have hja2:(ja:Int)<(nd:Int):=by omega
 have HE:=Lib.hid he
 have HI:=Lib.hid hi
 have HL:=Lib.hid hl
 have HG:=Lib.hid hleg
 have hiN:(i:Int)<(es.length:Int):=by omega
 have e0:=cell_lt k0
 subst hop
 clear he hl hleg hx hp hc1 hc2
 have e7:decide (ak=0)=(ak==0):=by rw [Bool.eq_iff_iff];simp
 dsimp only
 rw [e7]
 obtain⟨ta,hta⟩ : ∃t,(ak==0)=t:=⟨_,rfl⟩
 rw [hta]
 clear e7
 cases ta
 ·go_enter Tryz.func169,Tryz.ntmps169
  go_wp2_with fail
  refine(refOperands_any 11 _).mono ?_
  rintro e w1 ⟨rfl,rfl⟩
  rw [show arityE 11=1 from by decide]
  go_wp2_with fail
  refine(refLegal_any _ es i _ (HE.out.ext (((Ext.refl w).alloc _).alloc _).full) HI.out HL.out).mono ?_
  rintro e w2 ⟨rfl,rfl⟩
  rw [HG.out]
  go_wp2_with fail
  refine(refBoolean_any false _).mono ?_
  rintro e w3 ⟨rfl,x3⟩
  have Z1:=Lib.hid (ZR.ext x3 (g:=w.heap.size) ⟨by go_simp,by go_simp,(by go_simp;rfl),by go_simp,by go_simp,by go_simp⟩)
  have X1:=Lib.hid (Ext.trans (a:=w) (by repeat (first | exact Ext.refl _ | refine Ext.drewN ?_ _ | refine Ext.alloc ?_ _ | refine ext_set3 ?_ (by omega) _ _ _)) x3)
  clear x3
  obtain⟨z,hz⟩ : ∃z,z=boolV false:=⟨_,rfl⟩
  have HZ:=Lib.hid hz
  rw [←hz]
  obtain⟨zk,zn,zs⟩:=z
  obtain⟨d0,d1,d2,f0,f1,f2⟩:=Z1.out
  have e9:=cell_lt d0
  clear hz
  unfold valV
  dsimp only
  go_wp2_with fail
  exact bodyPost_ret (v:= .agg #[.int .i64 zk,.int .i64 zn,.string zs]) (by simp [results,Tryz.results169,go_sem,d0,d1,d2]) rfl ⟨congrArg (fun v=>Ending.returned (valV v)) (HZ.out),Below.setCell (Below.setCell (Below.setCell X1.out (Nat.le_refl _) _) (Nat.le_refl _) _) (Nat.le_refl _) _⟩
 ·go_enter Tryz.func169,Tryz.ntmps169
  go_wp2_with fail
  refine(refOperands_any 11 _).mono ?_
  rintro e w1 ⟨rfl,rfl⟩
  rw [show arityE 11=1 from by decide]
  go_wp2_with fail
  refine(refLegal_any _ es i _ (HE.out.ext (((Ext.refl w).alloc _).alloc _).full) HI.out HL.out).mono ?_
  rintro e w2 ⟨rfl,rfl⟩
  rw [HG.out]
  go_wp2_with fail
  refine(refBoolean_any true _).mono ?_
  rintro e w3 ⟨rfl,x3⟩
  have Z1:=Lib.hid (ZR.ext x3 (g:=w.heap.size) ⟨by go_simp,by go_simp,(by go_simp;rfl),by go_simp,by go_simp,by go_simp⟩)
  have X1:=Lib.hid (Ext.trans (a:=w) (by repeat (first | exact Ext.refl _ | refine Ext.drewN ?_ _ | refine Ext.alloc ?_ _ | refine ext_set3 ?_ (by omega) _ _ _)) x3)
  clear x3
  obtain⟨z,hz⟩ : ∃z,z=boolV true:=⟨_,rfl⟩
  have HZ:=Lib.hid hz
  rw [←hz]
  obtain⟨zk,zn,zs⟩:=z
  obtain⟨d0,d1,d2,f0,f1,f2⟩:=Z1.out
  have e9:=cell_lt d0
  clear hz
  unfold valV
  dsimp only
  go_wp2_with fail
  exact bodyPost_ret (v:= .agg #[.int .i64 zk,.int .i64 zn,.string zs]) (by simp [results,Tryz.results169,go_sem,d0,d1,d2]) rfl ⟨congrArg (fun v=>Ending.returned (valV v)) (HZ.out),Below.setCell (Below.setCell (Below.setCell X1.out (Nat.le_refl _) _) (Nat.le_refl _) _) (Nat.le_refl _) _⟩
set_option maxRecDepth 100000 in
set_option maxHeartbeats 8000000 in
theorem refEval_eq (v:Value) (es:List ExprI) (i:Nat) (hi:i<es.length) (hl:es.length≤1000) (x:ExprI) (hx:es[i]=x) (hop:x.op=6) (hleg:legalE i es[i]=true) (bd od nd cd:Nat) (ja:Nat) (a:Val) (hja:x.a=ja∧ja<nd) (jb:Nat) (b:Val) (hjb:x.b=jb∧jb<nd) (vr:Value) (w:World) (he:SliceOf Rep.expr w.cell? v es) (ha:V3 w bd (od+ja*3) a) (hb:V3 w bd (od+jb*3) b) :
  Calls Tryz.prog 169 #[v,.int .i64 i,vr,.slice (some ⟨bd,od,none⟩) nd cd] w fun e w'=>e = .returned (valV (boolV (eqV a b)))∧Ext w w':=by
 obtain⟨p,cap,rfl,hc1,hc2,hp⟩:=he.form
 obtain⟨be,oe,rfl⟩:=hp (by decide) (by omega)
 obtain⟨k0,k1,k2,k3,k4,k5,k6⟩:=expr_at he i hi
 rw [hx]at k0 k1 k2 k3 k4 k5 k6
 obtain⟨xo,xa,xb,xc,⟨ck,cn,cs⟩⟩:=x
 dsimp only at k0 k1 k2 k3 k4 k5 k6 hop
 dsimp only at hja
 obtain⟨rfl,hja⟩:=hja
 obtain⟨c0,c1,c2⟩:=ha
 obtain⟨ak,an,sa⟩:=a
 dsimp only at c0 c1 c2
 have ea:=cell_lt c0
 have ea1:bd<w.heap.size+1:=by omega
 have ea2:bd<w.heap.size+1+1:=by omega
 have ea3:bd<w.heap.size+1+1+1:=by omega
 have hja2:(ja:Int)<(nd:Int):=by omega
 dsimp only at hjb
 obtain⟨rfl,hjb⟩:=hjb
 obtain⟨m0,m1,m2⟩:=hb
 obtain⟨bk,bn,sb⟩:=b
 dsimp only at m0 m1 m2
 have eb:=cell_lt m0
 have hjb2:(jb:Int)<(nd:Int):=by omega
 have HE:=Lib.hid he
 have HI:=Lib.hid hi
 have HL:=Lib.hid hl
 have HG:=Lib.hid hleg
 have hiN:(i:Int)<(es.length:Int):=by omega
 have e0:=cell_lt k0
 subst hop
 clear he hl hleg hx hp hc1 hc2
 by_cases h0:ak=0
 ·have hv:eqV ⟨ak,an,sa⟩ ⟨bk,bn,sb⟩=false:=by unfold eqV;dsimp only;rw [decide_eq_false (show ¬ak≠0 by simp [h0])];rfl
  rw [hv]
  have t0:(ak != 0)=false:=by simp [h0]
  clear hv h0
  go_enter Tryz.func169,Tryz.ntmps169
  go_wp2_with fail
  refine(refOperands_any 6 _).mono ?_
  rintro e w1 ⟨rfl,rfl⟩
  rw [show arityE 6=2 from by decide]
  go_wp2_with fail
  refine(refLegal_any _ es i _ (HE.out.ext (((Ext.refl w).alloc _).alloc _).full) HI.out HL.out).mono ?_
  rintro e w2 ⟨rfl,rfl⟩
  rw [HG.out]
  go_wp2_with fail
  refine(refBoolean_any false _).mono ?_
  rintro e w3 ⟨rfl,x3⟩
  have Z1:=Lib.hid (ZR.ext x3 (g:=w.heap.size) ⟨by go_simp,by go_simp,(by go_simp;rfl),by go_simp,by go_simp,by go_simp⟩)
  have X1:=Lib.hid (Ext.trans (a:=w) (by repeat (first | exact Ext.refl _ | refine Ext.drewN ?_ _ | refine Ext.alloc ?_ _ | refine ext_set3 ?_ (by omega) _ _ _)) x3)
  clear x3
  obtain⟨z,hz⟩ : ∃z,z=boolV false:=⟨_,rfl⟩
  have HZ:=Lib.hid hz
  rw [←hz]
  obtain⟨zk,zn,zs⟩:=z
  obtain⟨d0,d1,d2,f0,f1,f2⟩:=Z1.out
  have e9:=cell_lt d0
  clear hz
  unfold valV
  dsimp only
  go_wp2_with fail
  exact bodyPost_ret (v:= .agg #[.int .i64 zk,.int .i64 zn,.string zs]) (by simp [results,Tryz.results169,go_sem,d0,d1,d2]) rfl ⟨congrArg (fun v=>Ending.returned (valV v)) (HZ.out),Below.setCell (Below.setCell (Below.setCell X1.out (Nat.le_refl _) _) (Nat.le_refl _) _) (Nat.le_refl _) _⟩
 ·have t0:(ak != 0)=true:=by simp [h0]
  by_cases h1:bk≠0
  ·have hv:eqV ⟨ak,an,sa⟩ ⟨bk,bn,sb⟩=decide (cmpVal ⟨ak,an,sa⟩ ⟨bk,bn,sb⟩=0):=by unfold eqV;dsimp only;rw [decide_eq_true (show ak≠0 from h0),decide_eq_true h1];rfl
   rw [hv]
   have t1:(bk != 0)=true:=by simp [h1]
   obtain⟨q,hq⟩ : ∃q,q=cmpVal ⟨ak,an,sa⟩ ⟨bk,bn,sb⟩:=⟨_,rfl⟩
   have HQ:=Lib.hid hq
   rw [←hq]
   have e7:decide (q=0)=(q==0):=by first | rfl | (rw [Bool.eq_iff_iff];simp)
   rw [e7]
   obtain⟨tq,htq⟩ : ∃t,(q==0)=t:=⟨_,rfl⟩
   rw [htq]
   clear hv h0 h1 hq e7
   go_enter Tryz.func169,Tryz.ntmps169
   go_wp2_with fail
   refine(refOperands_any 6 _).mono ?_
   rintro e w1 ⟨rfl,rfl⟩
   rw [show arityE 6=2 from by decide]
   go_wp2_with fail
   refine(refLegal_any _ es i _ (HE.out.ext (((Ext.refl w).alloc _).alloc _).full) HI.out HL.out).mono ?_
   rintro e w2 ⟨rfl,rfl⟩
   rw [HG.out]
   go_wp2_with fail
   refine(ref_compare ⟨ak,an,sa⟩ ⟨bk,bn,sb⟩ _).mono ?_
   rintro e w3 ⟨rfl,g3⟩
   rw [←HQ.out]
   have x3:=g3.ext
   have Z1:=Lib.hid (ZR.ext x3 (g:=w.heap.size) ⟨by go_simp,by go_simp,(by go_simp;rfl),by go_simp,by go_simp,by go_simp⟩)
   have X1:=Lib.hid (Ext.trans (a:=w) (by repeat (first | exact Ext.refl _ | refine Ext.drewN ?_ _ | refine Ext.alloc ?_ _ | refine ext_set3 ?_ (by omega) _ _ _)) x3)
   clear x3 g3
   cases tq
   ·go_wp2_with fail
    refine(refBoolean_any false _).mono ?_
    rintro e w4 ⟨rfl,x4⟩
    have Z2:=Lib.hid (ZR.ext x4 Z1.out)
    have X2:=Lib.hid (X1.out.trans x4)
    clear Z1 X1
    have Z1:=Lib.hid Z2.out
    have X1:=Lib.hid X2.out
    clear Z2 X2
    clear x4
    obtain⟨z,hz⟩ : ∃z,z=boolV false:=⟨_,rfl⟩
    have HZ:=Lib.hid hz
    rw [←hz]
    obtain⟨zk,zn,zs⟩:=z
    obtain⟨d0,d1,d2,f0,f1,f2⟩:=Z1.out
    have e9:=cell_lt d0
    clear hz
    unfold valV
    dsimp only
    go_wp2_with fail
    exact bodyPost_ret (v:= .agg #[.int .i64 zk,.int .i64 zn,.string zs]) (by simp [results,Tryz.results169,go_sem,d0,d1,d2]) rfl ⟨congrArg (fun v=>Ending.returned (valV v)) (HZ.out),Below.setCell (Below.setCell (Below.setCell X1.out (Nat.le_refl _) _) (Nat.le_refl _) _) (Nat.le_refl _) _⟩
   ·go_wp2_with fail
    refine(refBoolean_any true _).mono ?_
    rintro e w4 ⟨rfl,x4⟩
    have Z2:=Lib.hid (ZR.ext x4 Z1.out)
    have X2:=Lib.hid (X1.out.trans x4)
    clear Z1 X1
    have Z1:=Lib.hid Z2.out
    have X1:=Lib.hid X2.out
    clear Z2 X2
    clear x4
    obtain⟨z,hz⟩ : ∃z,z=boolV true:=⟨_,rfl⟩
    have HZ:=Lib.hid hz
    rw [←hz]
    obtain⟨zk,zn,zs⟩:=z
    obtain⟨d0,d1,d2,f0,f1,f2⟩:=Z1.out
    have e9:=cell_lt d0
    clear hz
    unfold valV
    dsimp only
    go_wp2_with fail
    exact bodyPost_ret (v:= .agg #[.int .i64 zk,.int .i64 zn,.string zs]) (by simp [results,Tryz.results169,go_sem,d0,d1,d2]) rfl ⟨congrArg (fun v=>Ending.returned (valV v)) (HZ.out),Below.setCell (Below.setCell (Below.setCell X1.out (Nat.le_refl _) _) (Nat.le_refl _) _) (Nat.le_refl _) _⟩
  ·have hv:eqV ⟨ak,an,sa⟩ ⟨bk,bn,sb⟩=false:=by unfold eqV;dsimp only;rw [decide_eq_true (show ak≠0 from h0),decide_eq_false h1];rfl
   rw [hv]
   have t1:(bk != 0)=false:=by simpa using h1
   clear hv h0 h1
   go_enter Tryz.func169,Tryz.ntmps169
   go_wp2_with fail
   refine(refOperands_any 6 _).mono ?_
   rintro e w1 ⟨rfl,rfl⟩
   rw [show arityE 6=2 from by decide]
   go_wp2_with fail
   refine(refLegal_any _ es i _ (HE.out.ext (((Ext.refl w).alloc _).alloc _).full) HI.out HL.out).mono ?_
   rintro e w2 ⟨rfl,rfl⟩
   rw [HG.out]
   go_wp2_with fail
   refine(refBoolean_any false _).mono ?_
   rintro e w3 ⟨rfl,x3⟩
   have Z1:=Lib.hid (ZR.ext x3 (g:=w.heap.size) ⟨by go_simp,by go_simp,(by go_simp;rfl),by go_simp,by go_simp,by go_simp⟩)
   have X1:=Lib.hid (Ext.trans (a:=w) (by repeat (first | exact Ext.refl _ | refine Ext.drewN ?_ _ | refine Ext.alloc ?_ _ | refine ext_set3 ?_ (by omega) _ _ _)) x3)
   clear x3
   obtain⟨z,hz⟩ : ∃z,z=boolV false:=⟨_,rfl⟩
   have HZ:=Lib.hid hz
   rw [←hz]
   obtain⟨zk,zn,zs⟩:=z
   obtain⟨d0,d1,d2,f0,f1,f2⟩:=Z1.out
   have e9:=cell_lt d0
   clear hz
   unfold valV
   dsimp only
   go_wp2_with fail
   exact bodyPost_ret (v:= .agg #[.int .i64 zk,.int .i64 zn,.string zs]) (by simp [results,Tryz.results169,go_sem,d0,d1,d2]) rfl ⟨congrArg (fun v=>Ending.returned (valV v)) (HZ.out),Below.setCell (Below.setCell (Below.setCell X1.out (Nat.le_refl _) _) (Nat.le_refl _) _) (Nat.le_refl _) _⟩
set_option maxRecDepth 100000 in
set_option maxHeartbeats 8000000 in
theorem refEval_less (v:Value) (es:List ExprI) (i:Nat) (hi:i<es.length) (hl:es.length≤1000) (x:ExprI) (hx:es[i]=x) (hop:x.op=7) (hleg:legalE i es[i]=true) (bd od nd cd:Nat) (ja:Nat) (a:Val) (hja:x.a=ja∧ja<nd) (jb:Nat) (b:Val) (hjb:x.b=jb∧jb<nd) (vr:Value) (w:World) (he:SliceOf Rep.expr w.cell? v es) (ha:V3 w bd (od+ja*3) a) (hb:V3 w bd (od+jb*3) b) :
  Calls Tryz.prog 169 #[v,.int .i64 i,vr,.slice (some ⟨bd,od,none⟩) nd cd] w fun e w'=>e = .returned (valV (boolV (lessV a b)))∧Ext w w':=by
 obtain⟨p,cap,rfl,hc1,hc2,hp⟩:=he.form
 obtain⟨be,oe,rfl⟩:=hp (by decide) (by omega)
 obtain⟨k0,k1,k2,k3,k4,k5,k6⟩:=expr_at he i hi
 rw [hx]at k0 k1 k2 k3 k4 k5 k6
 obtain⟨xo,xa,xb,xc,⟨ck,cn,cs⟩⟩:=x
 dsimp only at k0 k1 k2 k3 k4 k5 k6 hop
 dsimp only at hja
 obtain⟨rfl,hja⟩:=hja
 obtain⟨c0,c1,c2⟩:=ha
 obtain⟨ak,an,sa⟩:=a
 dsimp only at c0 c1 c2
 have ea:=cell_lt c0
 have ea1:bd<w.heap.size+1:=by omega
 have ea2:bd<w.heap.size+1+1:=by omega
 have ea3:bd<w.heap.size+1+1+1:=by omega
 have hja2:(ja:Int)<(nd:Int):=by omega
 dsimp only at hjb
 obtain⟨rfl,hjb⟩:=hjb
 obtain⟨m0,m1,m2⟩:=hb
 obtain⟨bk,bn,sb⟩:=b
 dsimp only at m0 m1 m2
 have eb:=cell_lt m0
 have hjb2:(jb:Int)<(nd:Int):=by omega
 have HE:=Lib.hid he
 have HI:=Lib.hid hi
 have HL:=Lib.hid hl
 have HG:=Lib.hid hleg
 have hiN:(i:Int)<(es.length:Int):=by omega
 have e0:=cell_lt k0
 subst hop
 clear he hl hleg hx hp hc1 hc2
 by_cases h0:ak=0
 ·have hv:lessV ⟨ak,an,sa⟩ ⟨bk,bn,sb⟩=false:=by unfold lessV;dsimp only;rw [decide_eq_false (show ¬ak≠0 by simp [h0])];rfl
  rw [hv]
  have t0:(ak != 0)=false:=by simp [h0]
  clear hv h0
  go_enter Tryz.func169,Tryz.ntmps169
  go_wp2_with fail
  refine(refOperands_any 7 _).mono ?_
  rintro e w1 ⟨rfl,rfl⟩
  rw [show arityE 7=2 from by decide]
  go_wp2_with fail
  refine(refLegal_any _ es i _ (HE.out.ext (((Ext.refl w).alloc _).alloc _).full) HI.out HL.out).mono ?_
  rintro e w2 ⟨rfl,rfl⟩
  rw [HG.out]
  go_wp2_with fail
  refine(refBoolean_any false _).mono ?_
  rintro e w3 ⟨rfl,x3⟩
  have Z1:=Lib.hid (ZR.ext x3 (g:=w.heap.size) ⟨by go_simp,by go_simp,(by go_simp;rfl),by go_simp,by go_simp,by go_simp⟩)
  have X1:=Lib.hid (Ext.trans (a:=w) (by repeat (first | exact Ext.refl _ | refine Ext.drewN ?_ _ | refine Ext.alloc ?_ _ | refine ext_set3 ?_ (by omega) _ _ _)) x3)
  clear x3
  obtain⟨z,hz⟩ : ∃z,z=boolV false:=⟨_,rfl⟩
  have HZ:=Lib.hid hz
  rw [←hz]
  obtain⟨zk,zn,zs⟩:=z
  obtain⟨d0,d1,d2,f0,f1,f2⟩:=Z1.out
  have e9:=cell_lt d0
  clear hz
  unfold valV
  dsimp only
  go_wp2_with fail
  exact bodyPost_ret (v:= .agg #[.int .i64 zk,.int .i64 zn,.string zs]) (by simp [results,Tryz.results169,go_sem,d0,d1,d2]) rfl ⟨congrArg (fun v=>Ending.returned (valV v)) (HZ.out),Below.setCell (Below.setCell (Below.setCell X1.out (Nat.le_refl _) _) (Nat.le_refl _) _) (Nat.le_refl _) _⟩
 ·have t0:(ak != 0)=true:=by simp [h0]
  by_cases h1:ak=bk
  ·have hv:lessV ⟨ak,an,sa⟩ ⟨bk,bn,sb⟩=decide (cmpVal ⟨ak,an,sa⟩ ⟨bk,bn,sb⟩<0):=by unfold lessV;dsimp only;rw [decide_eq_true (show ak≠0 from h0),decide_eq_true h1];rfl
   rw [hv]
   have t1:(ak==bk)=true:=by simp [h1]
   obtain⟨q,hq⟩ : ∃q,q=cmpVal ⟨ak,an,sa⟩ ⟨bk,bn,sb⟩:=⟨_,rfl⟩
   have HQ:=Lib.hid hq
   rw [←hq]
   have e7:decide (q<0)=decide (q<0):=by first | rfl | (rw [Bool.eq_iff_iff];simp)
   rw [e7]
   obtain⟨tq,htq⟩ : ∃t,decide (q<0)=t:=⟨_,rfl⟩
   rw [htq]
   clear hv h0 h1 hq e7
   go_enter Tryz.func169,Tryz.ntmps169
   go_wp2_with fail
   refine(refOperands_any 7 _).mono ?_
   rintro e w1 ⟨rfl,rfl⟩
   rw [show arityE 7=2 from by decide]
   go_wp2_with fail
   refine(refLegal_any _ es i _ (HE.out.ext (((Ext.refl w).alloc _).alloc _).full) HI.out HL.out).mono ?_
   rintro e w2 ⟨rfl,rfl⟩
   rw [HG.out]
   go_wp2_with fail
   refine(ref_compare ⟨ak,an,sa⟩ ⟨bk,bn,sb⟩ _).mono ?_
   rintro e w3 ⟨rfl,g3⟩
   rw [←HQ.out]
   have x3:=g3.ext
   have Z1:=Lib.hid (ZR.ext x3 (g:=w.heap.size) ⟨by go_simp,by go_simp,(by go_simp;rfl),by go_simp,by go_simp,by go_simp⟩)
   have X1:=Lib.hid (Ext.trans (a:=w) (by repeat (first | exact Ext.refl _ | refine Ext.drewN ?_ _ | refine Ext.alloc ?_ _ | refine ext_set3 ?_ (by omega) _ _ _)) x3)
   clear x3 g3
   cases tq
   ·go_wp2_with fail
    refine(refBoolean_any false _).mono ?_
    rintro e w4 ⟨rfl,x4⟩
    have Z2:=Lib.hid (ZR.ext x4 Z1.out)
    have X2:=Lib.hid (X1.out.trans x4)
    clear Z1 X1
    have Z1:=Lib.hid Z2.out
    have X1:=Lib.hid X2.out
    clear Z2 X2
    clear x4
    obtain⟨z,hz⟩ : ∃z,z=boolV false:=⟨_,rfl⟩
    have HZ:=Lib.hid hz
    rw [←hz]
    obtain⟨zk,zn,zs⟩:=z
    obtain⟨d0,d1,d2,f0,f1,f2⟩:=Z1.out
    have e9:=cell_lt d0
    clear hz
    unfold valV
    dsimp only
    go_wp2_with fail
    exact bodyPost_ret (v:= .agg #[.int .i64 zk,.int .i64 zn,.string zs]) (by simp [results,Tryz.results169,go_sem,d0,d1,d2]) rfl ⟨congrArg (fun v=>Ending.returned (valV v)) (HZ.out),Below.setCell (Below.setCell (Below.setCell X1.out (Nat.le_refl _) _) (Nat.le_refl _) _) (Nat.le_refl _) _⟩
   ·go_wp2_with fail
    refine(refBoolean_any true _).mono ?_
    rintro e w4 ⟨rfl,x4⟩
    have Z2:=Lib.hid (ZR.ext x4 Z1.out)
    have X2:=Lib.hid (X1.out.trans x4)
    clear Z1 X1
    have Z1:=Lib.hid Z2.out
    have X1:=Lib.hid X2.out
    clear Z2 X2
    clear x4
    obtain⟨z,hz⟩ : ∃z,z=boolV true:=⟨_,rfl⟩
    have HZ:=Lib.hid hz
    rw [←hz]
    obtain⟨zk,zn,zs⟩:=z
    obtain⟨d0,d1,d2,f0,f1,f2⟩:=Z1.out
    have e9:=cell_lt d0
    clear hz
    unfold valV
    dsimp only
    go_wp2_with fail
    exact bodyPost_ret (v:= .agg #[.int .i64 zk,.int .i64 zn,.string zs]) (by simp [results,Tryz.results169,go_sem,d0,d1,d2]) rfl ⟨congrArg (fun v=>Ending.returned (valV v)) (HZ.out),Below.setCell (Below.setCell (Below.setCell X1.out (Nat.le_refl _) _) (Nat.le_refl _) _) (Nat.le_refl _) _⟩
  ·have hv:lessV ⟨ak,an,sa⟩ ⟨bk,bn,sb⟩=false:=by unfold lessV;dsimp only;rw [decide_eq_true (show ak≠0 from h0),decide_eq_false h1];rfl
   rw [hv]
   have t1:(ak==bk)=false:=by simp [h1]
   clear hv h0 h1
   go_enter Tryz.func169,Tryz.ntmps169
   go_wp2_with fail
   refine(refOperands_any 7 _).mono ?_
   rintro e w1 ⟨rfl,rfl⟩
   rw [show arityE 7=2 from by decide]
   go_wp2_with fail
   refine(refLegal_any _ es i _ (HE.out.ext (((Ext.refl w).alloc _).alloc _).full) HI.out HL.out).mono ?_
   rintro e w2 ⟨rfl,rfl⟩
   rw [HG.out]
   go_wp2_with fail
   refine(refBoolean_any false _).mono ?_
   rintro e w3 ⟨rfl,x3⟩
   have Z1:=Lib.hid (ZR.ext x3 (g:=w.heap.size) ⟨by go_simp,by go_simp,(by go_simp;rfl),by go_simp,by go_simp,by go_simp⟩)
   have X1:=Lib.hid (Ext.trans (a:=w) (by repeat (first | exact Ext.refl _ | refine Ext.drewN ?_ _ | refine Ext.alloc ?_ _ | refine ext_set3 ?_ (by omega) _ _ _)) x3)
   clear x3
   obtain⟨z,hz⟩ : ∃z,z=boolV false:=⟨_,rfl⟩
   have HZ:=Lib.hid hz
   rw [←hz]
   obtain⟨zk,zn,zs⟩:=z
   obtain⟨d0,d1,d2,f0,f1,f2⟩:=Z1.out
   have e9:=cell_lt d0
   clear hz
   unfold valV
   dsimp only
   go_wp2_with fail
   exact bodyPost_ret (v:= .agg #[.int .i64 zk,.int .i64 zn,.string zs]) (by simp [results,Tryz.results169,go_sem,d0,d1,d2]) rfl ⟨congrArg (fun v=>Ending.returned (valV v)) (HZ.out),Below.setCell (Below.setCell (Below.setCell X1.out (Nat.le_refl _) _) (Nat.le_refl _) _) (Nat.le_refl _) _⟩
end Go.Proofs.YtkddkbpoefidpaaGreatDoor
