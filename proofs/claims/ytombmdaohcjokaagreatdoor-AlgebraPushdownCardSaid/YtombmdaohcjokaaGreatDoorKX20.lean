/- joined texts of a proof: Pred, PredW -/
import Derived.Test.YtombmdaohcjokaaGreatDoorKX10
import Derived.Test.YtombmdaohcjokaaGreatDoorKX04
import Derived.Test.YtombmdaohcjokaaGreatDoorKX03
import Derived.Test.YtombmdaohcjokaaGreatDoorKX11
import Derived.Deep.QuietTactic
import Derived.BigQuiet
namespace Go.Proofs.YtombmdaohcjokaaGreatDoor
open Go.RowKit
def constV (kind x:Int):Val:=if kind=1 then genV0 (x % 6)else if kind=2 then genV1 (x % 6)else if kind=3 then⟨3,x % 2,ByteArray.empty⟩else nV
theorem ok_constV (kind x:Int):okVal (constV kind x):=by
 unfold constV
 split
 ·exact ok_genV0 _
 split
 ·exact ok_genV1 _
 split
 ·exact⟨⟨by dsimp only;omega,by dsimp only;omega⟩,by dsimp only;omega,by simp [maxLen]⟩
 ·exact ok_nV
theorem box3 {w w1:World} {T:TypeId} (x1:Ext (w.alloc (.cells #[.int .i64 0,.int .i64 0,.string ⟨#[]⟩] T)) w1) :
  (w1.cell? ⟨w.heap.size,0,none⟩=some (.int .i64 0)∧w1.cell? ⟨w.heap.size,1,none⟩=some (.int .i64 0)∧w1.cell? ⟨w.heap.size,2,none⟩=some (.string ⟨#[]⟩))∧(w1.frozen? ⟨w.heap.size,0,none⟩=false∧w1.frozen? ⟨w.heap.size,1,none⟩=false∧w1.frozen? ⟨w.heap.size,2,none⟩=false)∧w.heap.size<w1.heap.size:=by
 have c0:=x1.at (p:=⟨w.heap.size,0,none⟩) (v:= .int .i64 0) (by go_simp)
 have c1:=x1.at (p:=⟨w.heap.size,1,none⟩) (v:= .int .i64 0) (by go_simp)
 have c2:=x1.at (p:=⟨w.heap.size,2,none⟩) (v:= .string ⟨#[]⟩) (by go_simp)
 have f0:=x1.unfrozen (p:=⟨w.heap.size,0,none⟩) (v:= .int .i64 0) (by go_simp) (by go_simp)
 have f1:=x1.unfrozen (p:=⟨w.heap.size,1,none⟩) (v:= .int .i64 0) (by go_simp) (by go_simp)
 have f2:=x1.unfrozen (p:=⟨w.heap.size,2,none⟩) (v:= .string ⟨#[]⟩) (by go_simp) (by go_simp)
 exact⟨⟨c0,c1,c2⟩,⟨f0,f1,f2⟩,cell_lt c0⟩
theorem ext_W3 {W wa:World} {B:Nat} (h:Ext W wa) (hB:W.heap.size≤B) (u0 u1 u2:Value):Ext W (((wa.setCell ⟨B,0,none⟩ u0).setCell ⟨B,1,none⟩ u1).setCell ⟨B,2,none⟩ u2) :=
 Below.setCell (Below.setCell (Below.setCell h hB u0) hB u1) hB u2
set_option maxRecDepth 100000 in
set_option maxHeartbeats 2000000 in
theorem constant_any (kind x:Int) (w:World) (h0:0≤x) (h1:x≤65535) :
  Calls Tryz.prog 74 #[.int .i64 kind,.int .u16 x] w fun e w'=>e = .returned (valV (constV kind x))∧Ext w w':=by
 have h6:0≤x % 6∧x % 6≤65535:=by omega
 have h2:0≤x % 2∧x % 2≤65535:=by omega
 by_cases c1:kind=1
 ·subst c1
  have hc:constV 1 x=genV0 (x % 6):=rfl
  rw [hc]
  have HV:=Lib.hid (fun wz=>value_0 (x % 6) wz h6.1 h6.2)
  generalize genV0 (x % 6)=y at HV ⊢
  obtain⟨yk,yn,ys⟩:=y
  clear hc h2 h6
  go_enter Tryz.func74,Tryz.ntmps74
  go_wp2_with fail
  refine(HV.out _).mono ?_
  rintro e w1 ⟨rfl,x1⟩
  unfold valV
  dsimp only
  obtain⟨⟨c0,c1,c2⟩,⟨f0,f1,f2⟩,z1⟩:=box3 x1
  go_wp2_with fail
  exact bodyPost_ret (v:=valV ⟨yk,yn,ys⟩) (by simp [results,Tryz.results74,go_sem,valV,c0,c1,c2]) rfl ⟨rfl,ext_W3 (((Ext.refl w).alloc _).trans x1) (Nat.le_refl _) _ _ _⟩
 by_cases c2:kind=2
 ·subst c2
  clear c1
  have hc:constV 2 x=genV1 (x % 6):=rfl
  rw [hc]
  have HV:=Lib.hid (fun wz=>value_1 (x % 6) wz h6.1 h6.2)
  generalize genV1 (x % 6)=y at HV ⊢
  obtain⟨yk,yn,ys⟩:=y
  clear hc h2 h6
  go_enter Tryz.func74,Tryz.ntmps74
  go_wp2_with fail
  refine(HV.out _).mono ?_
  rintro e w1 ⟨rfl,x1⟩
  unfold valV
  dsimp only
  obtain⟨⟨c0,c1,c2⟩,⟨f0,f1,f2⟩,z1⟩:=box3 x1
  go_wp2_with fail
  exact bodyPost_ret (v:=valV ⟨yk,yn,ys⟩) (by simp [results,Tryz.results74,go_sem,valV,c0,c1,c2]) rfl ⟨rfl,ext_W3 (((Ext.refl w).alloc _).trans x1) (Nat.le_refl _) _ _ _⟩
 by_cases c3:kind=3
 ·subst c3
  have hc:constV 3 x=⟨3,x % 2,ByteArray.empty⟩:=rfl
  have HC:=Lib.hid hc
  clear hc h6 c1 c2
  go_enter Tryz.func74,Tryz.ntmps74
  go_wp2_with fail
  exact bodyPost_ret (v:=valV (constV 3 x)) (by rw [HC.out];simp [results,Tryz.results74,go_sem,valV];try rfl) rfl ⟨rfl,(Ext.refl w).alloc _⟩
 ·have hc:constV kind x=nV:=by unfold constV;rw [if_neg c1,if_neg c2,if_neg c3]
  have HC:=Lib.hid hc
  have d1:(kind==1)=false:=by simp [c1]
  have d2:(kind==2)=false:=by simp [c2]
  have d3:(kind==3)=false:=by simp [c3]
  clear hc h6 h2 c1 c2 c3
  go_enter Tryz.func74,Tryz.ntmps74
  go_wp2_with fail
  exact bodyPost_ret (v:=valV (constV kind x)) (by rw [HC.out];simp [results,Tryz.results74,go_sem,valV,nV];try rfl) rfl ⟨rfl,(Ext.refl w).alloc _⟩
end Go.Proofs.YtombmdaohcjokaaGreatDoor
namespace Go.Proofs.YtombmdaohcjokaaGreatDoor
open Go.RowKit
structure PIn (w0 wr:World) (bx base:Nat) (T:TypeId) (x0 x1 x2 x3:Int) (u0 u:Value) (es:List ExprI):Prop where
 own:OwnOf Rep.expr wr (fun _=>True) base T u es
 chg:Chg (fun k=>u0.ownBlock=some k) w0 wr
 b0:wr.cell? ⟨bx,0,none⟩=some (.int .u16 x0)
 b1:wr.cell? ⟨bx,1,none⟩=some (.int .u16 x1)
 b2:wr.cell? ⟨bx,2,none⟩=some (.int .u16 x2)
 b3:wr.cell? ⟨bx,3,none⟩=some (.int .u16 x3)
 ne : ∀k,u.ownBlock=some k→k≠bx∧(u0.ownBlock=some k∨w0.heap.size≤k)
 hb:base≤wr.heap.size
section
variable {w0 wr w':World} {bx base:Nat} {T:TypeId} {x0 x1 x2 x3:Int} {u0 u:Value} {es ys:List ExprI}
theorem PIn.ext (h:PIn w0 wr bx base T x0 x1 x2 x3 u0 u es) (hx:Ext wr w'):PIn w0 w' bx base T x0 x1 x2 x3 u0 u es :=
 ⟨h.own.ext hx,h.chg.ext hx,hx.at h.b0,hx.at h.b1,hx.at h.b2,hx.at h.b3,h.ne,Nat.le_trans h.hb hx.size⟩
theorem PIn.push (h:PIn w0 wr bx base T x0 x1 x2 x3 u0 u es) {g a b:Nat} (own:OwnOf Rep.expr w' (fun _=>True) base T (.slice (some ⟨g,0,none⟩) a b) ys) (gr:wr.grownBy w' u.ownBlock) (hg:u.ownBlock=some g∨g=wr.heap.size) :
  PIn w0 w' bx base T x0 x1 x2 x3 u0 (.slice (some ⟨g,0,none⟩) a b) ys:=by
 have hne : ∀k,u.ownBlock=some k→k≠bx:=fun k hk=>(h.ne k hk).1
 refine⟨own,h.chg.grown gr fun k hk=>(h.ne k hk).2,cell_grown gr h.b0 hne,cell_grown gr h.b1 hne,cell_grown gr h.b2 hne,cell_grown gr h.b3 hne,fun k hk=> ?_,Nat.le_trans h.hb gr.size⟩
 have e:g=k:=Option.some.inj hk
 subst e
 rcases hg with hg | hg
 ·exact h.ne g hg
 ·have h1:=cell_lt h.b0
  have h2:=h.chg.size
  exact⟨by omega,.inr (by omega)⟩
end
theorem keepC2 {wa wb:World} {p1 p2:Addr} {v1 v2:Value} (h:wa.cell? p1=some v1∧wa.cell? p2=some v2) (hx:Ext wa wb):wb.cell? p1=some v1∧wb.cell? p2=some v2:=⟨hx.at h.1,hx.at h.2⟩
def selE (kinds:List Int) (x2 x3:Int) (i k:Nat):ExprI:=if kinds.getD i 0=kinds.getD k 0∧x2 % 5<3 then⟨2,0,0,k,nV⟩else⟨1,0,0,0,constV (kinds.getD i 0) x3⟩
def predL (kinds:List Int) (x0 x1 x2 x3:Int) (n:Nat):List ExprI :=
 [⟨2,0,0,pickI x0 kinds.length,nV⟩]++if x2 % 5=0 then [⟨11,n,0,0,nV⟩]else
  [selE kinds x2 x3 (pickI x0 kinds.length).toNat (pickI x1 kinds.length).toNat,⟨if x2 % 2=0 then 7 else 6,n,n+1,0,nV⟩]++if x3 % 4=0 then [⟨10,n+2,0,0,nV⟩]else []
theorem okI_small {z:Int} (h:0≤z∧z≤1000000):okI z:=by unfold okI;omega
theorem info_exprP:(Tryz.prog.info? 66).map (fun i=>(i.zero,i.size,i.bytes))=some (some (.agg #[.int .i64 0,.int .i64 0,.int .i64 0,.int .i64 0,.int .i64 0,.int .i64 0,.string ByteArray.empty]),Rep.expr.size,64):=by kernel_rfl
def PredPost (u:Value) (w:World) (base:Nat) (full:List ExprI) (e:Ending) (w':World):Prop :=
 ∃u',e = .returned (.tuple #[u',.int .i64 ((full.length - 1:Nat):Int)])∧OwnOf Rep.expr w' (fun _=>True) base 66 u' full∧Chg (fun k=>u.ownBlock=some k) w w'∧ ∀k,u'.ownBlock=some k→u.ownBlock=some k∨w.heap.size≤k
theorem PIn.fin {w0 wr:World} {bx base:Nat} {x0 x1 x2 x3:Int} {u0 u:Value} {es full:List ExprI} (h:PIn w0 wr bx base 66 x0 x1 x2 x3 u0 u es) (hf:full=es) {z:Int} (hz:z=((es.length - 1:Nat):Int)):PredPost u0 w0 base full (.returned (.tuple #[u,.int .i64 z])) wr:=by
 subst hf hz
 exact⟨u,rfl,h.own,h.chg,fun k hk=>(h.ne k hk).2⟩
set_option maxRecDepth 100000 in
set_option maxHeartbeats 8000000 in
theorem predicate_own (u:Value) (es:List ExprI) (kv:Value) (kinds:List Int) (x0 x1 x2 x3:Int) (base:Nat) (w:World) (own:OwnOf Rep.expr w (fun _=>True) base 66 u es) (hb:base≤w.heap.size) (hkv:SliceOf Rep.int (on w (fun k=>u.ownBlock≠some k)) kv kinds)
  (hk0:0<kinds.length) (hk1:kinds.length≤1000) (hes:es.length≤100000) (h0:0≤x0∧x0≤65535) (h1:0≤x1∧x1≤65535) (h2:0≤x2∧x2≤65535) (h3:0≤x3∧x3≤65535) :
  Calls Tryz.prog 34 #[u,kv,.agg #[.int .u16 x0,.int .u16 x1,.int .u16 x2,.int .u16 x3]] w (PredPost u w base (es++predL kinds x0 x1 x2 x3 es.length)):=by
 obtain⟨i7,hi7,hz70,hz71,hz72⟩:=info_parts info_exprP
 have HX:=Lib.hid (And.intro h0 (And.intro h1 (And.intro h2 h3)))
 obtain⟨n,hn⟩ : ∃n,n=kinds.length:=⟨_,rfl⟩
 obtain⟨i,hi⟩ : ∃i:Nat,pickI x0 n=i:=⟨(pickI x0 n).toNat,by have:=pick_rng (k:=x0) (n:=n) (by omega);omega⟩
 obtain⟨k,hk⟩ : ∃k:Nat,pickI x1 n=k:=⟨(pickI x1 n).toNat,by have:=pick_rng (k:=x1) (n:=n) (by omega);omega⟩
 have hin:i<n:=by have:=pick_rng (k:=x0) (n:=n) (by omega);omega
 have hkn:k<n:=by have:=pick_rng (k:=x1) (n:=n) (by omega);omega
 have HI:=Lib.hid hi
 have HK:=Lib.hid hk
 obtain⟨m,hm⟩ : ∃m,m=es.length:=⟨_,rfl⟩
 have hpl:predL kinds x0 x1 x2 x3 m = [⟨2,0,0,i,nV⟩]++if x2 % 5=0 then [⟨11,m,0,0,nV⟩]else [selE kinds x2 x3 i k,⟨if x2 % 2=0 then 7 else 6,m,m+1,0,nV⟩]++if x3 % 4=0 then [⟨10,m+2,0,0,nV⟩]else []:=by
  unfold predL
  rw [←hn,hi,hk]
  rfl
 rw [←hm,hpl]
 obtain⟨full,hfull⟩ : ∃z,z=es++([⟨2,0,0,i,nV⟩]++if x2 % 5=0 then [⟨11,m,0,0,nV⟩]else [selE kinds x2 x3 i k,⟨if x2 % 2=0 then 7 else 6,m,m+1,0,nV⟩]++if x3 % 4=0 then [⟨10,m+2,0,0,nV⟩]else []):=⟨_,rfl⟩
 rw [←hfull]
 obtain⟨pk,ck,rfl,hk1',hk2',hk3'⟩:=hkv.form
 rw [←hn]at hkv hk3' hk1 ⊢
 obtain⟨bk,ok,rfl⟩:=hk3' (by decide) (by omega)
 have hki:=(int_at (by have h:=hkv;rw [hn]at h;exact h) i (by omega))
 have hkk:=(int_at (by have h:=hkv;rw [hn]at h;exact h) k (by omega))
 have hgi:kinds.getD i 0=kinds[i]'(by omega):=by rw [List.getD_eq_getElem?_getD,List.getElem?_eq_getElem (by omega)];rfl
 have hgk:kinds.getD k 0=kinds[k]'(by omega):=by rw [List.getD_eq_getElem?_getD,List.getElem?_eq_getElem (by omega)];rfl
 rw [←hgi]at hki
 rw [←hgk]at hkk
 unfold selE at hfull
 generalize kinds.getD i 0=ki at hki hfull
 generalize kinds.getD k 0=kk at hkk hfull
 have HFULL:=Lib.hid hfull
 have HKI:=Lib.hid hki
 have HKK:=Lib.hid hkk
 have HM:=Lib.hid hm
 have HOW:=Lib.hid own
 have HBA:=Lib.hid hb
 have hml:m≤100000:=by omega
 obtain⟨pe,ce,rfl,_⟩:=own.slice.form
 rw [←hm]at HOW HKI HKK ⊢
 clear hfull hgi hgk hki hkk own hkv hk1' hk2' hk3' hpl hi hk hn hm hk0 hes hb
 go_enter Tryz.func34,Tryz.ntmps34
 go_wp2_with fail
 have hS0:Ext w (w.alloc (.cells #[.int .u16 x0,.int .u16 x1,.int .u16 x2,.int .u16 x3] 70)).drew∧(w.alloc (.cells #[.int .u16 x0,.int .u16 x1,.int .u16 x2,.int .u16 x3] 70)).drew.cell? ⟨w.heap.size,0,none⟩=some (.int .u16 x0)∧(w.alloc (.cells #[.int .u16 x0,.int .u16 x1,.int .u16 x2,.int .u16 x3] 70)).drew.cell? ⟨w.heap.size,1,none⟩=some (.int .u16 x1)∧(w.alloc (.cells #[.int .u16 x0,.int .u16 x1,.int .u16 x2,.int .u16 x3] 70)).drew.cell? ⟨w.heap.size,2,none⟩=some (.int .u16 x2)∧(w.alloc (.cells #[.int .u16 x0,.int .u16 x1,.int .u16 x2,.int .u16 x3] 70)).drew.cell? ⟨w.heap.size,3,none⟩=some (.int .u16 x3):=⟨((Ext.refl w).alloc _).drew,by go_simp,by go_simp,by go_simp,by go_simp⟩
 have r0:=HX.out.1
 have r1:=HX.out.2.1
 obtain⟨q0,q1⟩:=r0
 obtain⟨q2,q3⟩:=r1
 have wr0:IntKind.i64.wrap x0=x0:=by rw [IntKind.wrap_i64];omega
 have wr1:IntKind.i64.wrap x1=x1:=by rw [IntKind.wrap_i64];omega
 go_region_held3 (fun w'=>Ext w w'∧w'.cell? ⟨w.heap.size,0,none⟩=some (.int .u16 x0)∧w'.cell? ⟨w.heap.size,1,none⟩=some (.int .u16 x1)∧w'.cell? ⟨w.heap.size,2,none⟩=some (.int .u16 x2)∧w'.cell? ⟨w.heap.size,3,none⟩=some (.int .u16 x3))
  (first |with_reducible assumption)
  (first
   |(go_at_call 68;(with_reducible refine(pick_any x0 n _ (by omega) (by omega) (by omega) (by omega)).mono ?_);rintro e wz ⟨rfl,rfl⟩;rw [HI.out])
   |(go_at_call 68;(with_reducible refine(pick_any x1 n _ (by omega) (by omega) (by omega) (by omega)).mono ?_);rintro e wz ⟨rfl,rfl⟩;rw [HK.out]))
 all_goals
  obtain⟨bx,hbx⟩ : ∃z,z=w.heap.size:=⟨_,rfl⟩
  obtain⟨W1,hW1⟩ : ∃W1,W1=(w.alloc (.cells #[.int .u16 x0,.int .u16 x1,.int .u16 x2,.int .u16 x3] 70)).drew:=⟨_,rfl⟩
  rw [←hbx,←hW1]at hS0
  have PI:=Lib.hid (show PIn w W1 bx base 66 x0 x1 x2 x3 (.slice pe m ce) (.slice pe m ce) es from
   ⟨HOW.out.ext hS0.1,hS0.1.chg _,hS0.2.1,hS0.2.2.1,hS0.2.2.2.1,hS0.2.2.2.2,fun k hk=>⟨by have:=(HOW.out.lt k hk).2;omega,.inl hk⟩,Nat.le_trans HBA.out hS0.1.size⟩)
  have e0:=cell_lt hS0.2.1
  rw [←hbx,←hW1]
  have HBX:=Lib.hid hbx
  have A1:es.length+1≤maxLen:=by have:=HM.out;unfold maxLen;omega
  have A2:(es.length+1)*64≤140737488355328:=by have:=HM.out;omega
  have hii:okI (i:Int):=by unfold okI;omega
  have HII:=Lib.hid hii
  clear hS0 hW1 hbx q0 q1 q2 q3 wr0 wr1 hii HOW HI HK
  go_wp2_with (at_builtin;go_loud (refine wpList_append_one Rep.expr (fun _=>True) rfl _ _ 23 rfl base 66 i7 _ 64 Tryz.underlying23 hi7 hz70 hz71 hz72 rfl (by decide) (.slice pe m ce) es rfl (PI.out.own.ext ((Ext.refl _).alloc _)) ⟨_,0,none⟩ 1 ⟨2,0,0,i,nV⟩ [.int .i64 2,.int .i64 0,.int .i64 0,.int .i64 i,.int .i64 0,.int .i64 0,.string ⟨#[]⟩] rfl ⟨rfl,⟨okI_small (z:=2) (by decide),okI_small (z:=0) (by decide),okI_small (z:=0) (by decide),HII.out⟩,ok_nV⟩ (by exact cells_new _ [.int .i64 2,.int .i64 0,.int .i64 0,.int .i64 i,.int .i64 0,.int .i64 0,.string ⟨#[]⟩] _) A1 A2 (Nat.le_trans PI.out.hb ((Ext.refl _).alloc _).size) ?_))
  intro g2 cap2 w2 own2 gr2 hg2
  rw [←HM.out]at own2 ⊢
  have PJ:=Lib.hid ((PI.out.ext ((Ext.refl _).alloc _)).push own2 gr2 (by rcases hg2 with h | h;exact .inl h;exact .inr (by rw [h];simp)))
  clear own2 gr2 hg2 PI e0 A1 A2
  have b2:=PJ.out.b2
  have b3:=PJ.out.b3
  have e1:=cell_lt b2
  obtain⟨es2,hes2⟩ : ∃z,z=es ++ [(⟨2,0,0,i,nV⟩:ExprI)]:=⟨_,rfl⟩
  rw [←hes2]at PJ
  have HE2:=Lib.hid hes2
  have HLes2:=Lib.hid (show es2.length=m+1 from by rw [hes2,List.length_append,←HM.out];rfl)
  have kc0:=PJ.out.chg.at (on_some.1 HKI.out.1).2 (on_some.1 HKI.out.1).1
  have kc1:=PJ.out.chg.at (on_some.1 HKK.out.1).2 (on_some.1 HKK.out.1).1
  have hinI:(i:Int)<(n:Int):=by omega
  have hknI:(k:Int)<(n:Int):=by omega
  clear hes2
  by_cases c1:x2 % 5=0
  ·have hb1:(x2 % 5==0)=true:=by simp [c1]
   have A1:es2.length+1≤maxLen:=by have:=HLes2.out;unfold maxLen;omega
   have A2:(es2.length+1)*64≤140737488355328:=by have:=HLes2.out;omega
   go_wp2_with (at_builtin;go_loud (refine wpList_append_one Rep.expr (fun _=>True) rfl _ _ 23 rfl base 66 i7 _ 64 Tryz.underlying23 hi7 hz70 hz71 hz72 rfl (by decide) (.slice (some ⟨g2,0,none⟩) (m+1) cap2) es2 rfl (PJ.out.own.ext ((Ext.refl _).alloc _)) ⟨_,0,none⟩ 1 ⟨11,m,0,0,nV⟩ [.int .i64 11,.int .i64 m,.int .i64 0,.int .i64 0,.int .i64 0,.int .i64 0,.string ⟨#[]⟩] rfl ⟨rfl,⟨okI_small (z:=11) (by decide),(show okI (m:Int)from by unfold okI;omega),okI_small (z:=0) (by decide),okI_small (z:=0) (by decide)⟩,ok_nV⟩ (by exact cells_new _ [.int .i64 11,.int .i64 m,.int .i64 0,.int .i64 0,.int .i64 0,.int .i64 0,.string ⟨#[]⟩] _) A1 A2 (Nat.le_trans PJ.out.hb ((Ext.refl _).alloc _).size) ?_))
   intro g3 cap3 w3 own3 gr3 hg3
   rw [HLes2.out]at own3 ⊢
   have PK0:=Lib.hid ((PJ.out.ext ((Ext.refl _).alloc _)).push own3 gr3 (by rcases hg3 with h | h;exact .inl h;exact .inr (by rw [h];simp)))
   obtain⟨es3,hes3⟩ : ∃z,z=es2 ++ [⟨11,m,0,0,nV⟩]:=⟨_,rfl⟩
   rw [←hes3]at PK0
   have PK:=PK0
   have HE3:=Lib.hid hes3
   have HLes3:=Lib.hid (show es3.length=m+1+1 from by rw [hes3,List.length_append,HLes2.out];rfl)
   clear own3 gr3 hg3 PJ A1 A2 hes3 PK0 b2 b3 e1
   have HLLAST:=HLes3
   go_wp2_with fail
   exact bodyPost_ret (v:= .tuple #[.slice (some ⟨g3,0,none⟩) (m+1+1) cap3,.int .i64 ((m:Int)+1)]) (by simp [results,Tryz.results34,go_sem]) rfl (PK.out.fin (by rw [HE3.out,HE2.out,HFULL.out,if_pos c1];simp) (by have h:=HLLAST.out;omega))
  ·have hb1:(x2 % 5==0)=false:=by simp [c1]
   by_cases c2:ki=kk
   ·have hb2:(ki==kk)=true:=by simp [c2]
    have C2:=Lib.hid c2
    clear c2
    by_cases c3:x2 % 5<3
    ·have hb3:decide (x2 % 5<3)=true:=by simp [c3]
     go_wp2_with fail
     go_quiet (fail)
     have PK:=Lib.hid (PJ.out.ext ((Ext.refl w2).drewN nq))
     clear b2 b3 e1 kc0 kc1 PJ
     have A1:es2.length+1≤maxLen:=by have:=HLes2.out;unfold maxLen;omega
     have A2:(es2.length+1)*64≤140737488355328:=by have:=HLes2.out;omega
     go_wp2_with (at_builtin;go_loud (refine wpList_append_one Rep.expr (fun _=>True) rfl _ _ 23 rfl base 66 i7 _ 64 Tryz.underlying23 hi7 hz70 hz71 hz72 rfl (by decide) (.slice (some ⟨g2,0,none⟩) (m+1) cap2) es2 rfl (PK.out.own.ext ((Ext.refl _).alloc _)) ⟨_,0,none⟩ 1 ⟨2,0,0,k,nV⟩ [.int .i64 2,.int .i64 0,.int .i64 0,.int .i64 k,.int .i64 0,.int .i64 0,.string ⟨#[]⟩] rfl ⟨rfl,⟨okI_small (z:=2) (by decide),okI_small (z:=0) (by decide),okI_small (z:=0) (by decide),(show okI (k:Int)from by unfold okI;omega)⟩,ok_nV⟩ (by exact cells_new _ [.int .i64 2,.int .i64 0,.int .i64 0,.int .i64 k,.int .i64 0,.int .i64 0,.string ⟨#[]⟩] _) A1 A2 (Nat.le_trans PK.out.hb ((Ext.refl _).alloc _).size) ?_))
     intro g4 cap4 w4 own4 gr4 hg4
     rw [HLes2.out]at own4 ⊢
     have PL0:=Lib.hid ((PK.out.ext ((Ext.refl _).alloc _)).push own4 gr4 (by rcases hg4 with h | h;exact .inl h;exact .inr (by rw [h];simp)))
     obtain⟨es4,hes4⟩ : ∃z,z=es2 ++ [⟨2,0,0,k,nV⟩]:=⟨_,rfl⟩
     rw [←hes4]at PL0
     have PL:=PL0
     have HE4:=Lib.hid hes4
     have HLes4:=Lib.hid (show es4.length=m+1+1 from by rw [hes4,List.length_append,HLes2.out];rfl)
     clear own4 gr4 hg4 PK A1 A2 hes4 PL0
     by_cases c4:x2 % 2=0
     ·have hb4:(x2 % 2==0)=true:=by simp [c4]
      have b2:=PL.out.b2
      have b3:=PL.out.b3
      have e2:=cell_lt b2
      have hmI:okI ((m:Int)+1):=by unfold okI;omega
      have A1:es4.length+1≤maxLen:=by have:=HLes4.out;unfold maxLen;omega
      have A2:(es4.length+1)*64≤140737488355328:=by have:=HLes4.out;omega
      go_wp2_with (at_builtin;go_loud (refine wpList_append_one Rep.expr (fun _=>True) rfl _ _ 23 rfl base 66 i7 _ 64 Tryz.underlying23 hi7 hz70 hz71 hz72 rfl (by decide) (.slice (some ⟨g4,0,none⟩) (m+1+1) cap4) es4 rfl (PL.out.own.ext ((Ext.refl _).alloc _)) ⟨_,0,none⟩ 1 ⟨7,m,(m:Int)+1,0,nV⟩ [.int .i64 7,.int .i64 m,.int .i64 ((m:Int)+1),.int .i64 0,.int .i64 0,.int .i64 0,.string ⟨#[]⟩] rfl ⟨rfl,⟨okI_small (z:=7) (by decide),(show okI (m:Int)from by unfold okI;omega),hmI,okI_small (z:=0) (by decide)⟩,ok_nV⟩ (by exact cells_new _ [.int .i64 7,.int .i64 m,.int .i64 ((m:Int)+1),.int .i64 0,.int .i64 0,.int .i64 0,.string ⟨#[]⟩] _) A1 A2 (Nat.le_trans PL.out.hb ((Ext.refl _).alloc _).size) ?_))
      intro g5 cap5 w5 own5 gr5 hg5
      rw [HLes4.out]at own5 ⊢
      have PM0:=Lib.hid ((PL.out.ext ((Ext.refl _).alloc _)).push own5 gr5 (by rcases hg5 with h | h;exact .inl h;exact .inr (by rw [h];simp)))
      obtain⟨es5,hes5⟩ : ∃z,z=es4 ++ [⟨7,m,(m:Int)+1,0,nV⟩]:=⟨_,rfl⟩
      rw [←hes5]at PM0
      have PM:=PM0
      have HE5:=Lib.hid hes5
      have HLes5:=Lib.hid (show es5.length=m+1+1+1 from by rw [hes5,List.length_append,HLes4.out];rfl)
      clear own5 gr5 hg5 PL A1 A2 hes5 PM0 b2 b3 e2 hmI
      have b3:=PM.out.b3
      have e3:=cell_lt b3
      by_cases c5:x3 % 4=0
      ·have hb5:(x3 % 4==0)=true:=by simp [c5]
       have hmJ:okI ((m:Int)+2):=by unfold okI;omega
       have A1:es5.length+1≤maxLen:=by have:=HLes5.out;unfold maxLen;omega
       have A2:(es5.length+1)*64≤140737488355328:=by have:=HLes5.out;omega
       go_wp2_with (at_builtin;go_loud (refine wpList_append_one Rep.expr (fun _=>True) rfl _ _ 23 rfl base 66 i7 _ 64 Tryz.underlying23 hi7 hz70 hz71 hz72 rfl (by decide) (.slice (some ⟨g5,0,none⟩) (m+1+1+1) cap5) es5 rfl (PM.out.own.ext ((Ext.refl _).alloc _)) ⟨_,0,none⟩ 1 ⟨10,(m:Int)+2,0,0,nV⟩ [.int .i64 10,.int .i64 ((m:Int)+2),.int .i64 0,.int .i64 0,.int .i64 0,.int .i64 0,.string ⟨#[]⟩] rfl ⟨rfl,⟨okI_small (z:=10) (by decide),hmJ,okI_small (z:=0) (by decide),okI_small (z:=0) (by decide)⟩,ok_nV⟩ (by exact cells_new _ [.int .i64 10,.int .i64 ((m:Int)+2),.int .i64 0,.int .i64 0,.int .i64 0,.int .i64 0,.string ⟨#[]⟩] _) A1 A2 (Nat.le_trans PM.out.hb ((Ext.refl _).alloc _).size) ?_))
       intro g6 cap6 w6 own6 gr6 hg6
       rw [HLes5.out]at own6 ⊢
       have PQ0:=Lib.hid ((PM.out.ext ((Ext.refl _).alloc _)).push own6 gr6 (by rcases hg6 with h | h;exact .inl h;exact .inr (by rw [h];simp)))
       obtain⟨es6,hes6⟩ : ∃z,z=es5 ++ [⟨10,(m:Int)+2,0,0,nV⟩]:=⟨_,rfl⟩
       rw [←hes6]at PQ0
       have PQ:=PQ0
       have HE6:=Lib.hid hes6
       have HLes6:=Lib.hid (show es6.length=m+1+1+1+1 from by rw [hes6,List.length_append,HLes5.out];rfl)
       clear own6 gr6 hg6 PM A1 A2 hes6 PQ0 b3 e3 hmJ
       have HLLAST:=HLes6
       go_wp2_with fail
       exact bodyPost_ret (v:= .tuple #[.slice (some ⟨g6,0,none⟩) (m+1+1+1+1) cap6,.int .i64 ((m:Int)+1+1+1)]) (by simp [results,Tryz.results34,go_sem]) rfl (PQ.out.fin (by rw [HE6.out,HE5.out,HE4.out,HE2.out,HFULL.out,if_neg c1,if_pos ⟨C2.out,c3⟩,if_pos c4,if_pos c5];simp) (by have h:=HLLAST.out;omega))
      ·have hb5:(x3 % 4==0)=false:=by simp [c5]
       have HLLAST:=HLes5
       go_wp2_with fail
       exact bodyPost_ret (v:= .tuple #[.slice (some ⟨g5,0,none⟩) (m+1+1+1) cap5,.int .i64 ((m:Int)+1+1)]) (by simp [results,Tryz.results34,go_sem]) rfl (PM.out.fin (by rw [HE5.out,HE4.out,HE2.out,HFULL.out,if_neg c1,if_pos ⟨C2.out,c3⟩,if_pos c4,if_neg c5];simp) (by have h:=HLLAST.out;omega))
     ·have hb4:(x2 % 2==0)=false:=by simp [c4]
      have b2:=PL.out.b2
      have b3:=PL.out.b3
      have e2:=cell_lt b2
      have hmI:okI ((m:Int)+1):=by unfold okI;omega
      have A1:es4.length+1≤maxLen:=by have:=HLes4.out;unfold maxLen;omega
      have A2:(es4.length+1)*64≤140737488355328:=by have:=HLes4.out;omega
      go_wp2_with (at_builtin;go_loud (refine wpList_append_one Rep.expr (fun _=>True) rfl _ _ 23 rfl base 66 i7 _ 64 Tryz.underlying23 hi7 hz70 hz71 hz72 rfl (by decide) (.slice (some ⟨g4,0,none⟩) (m+1+1) cap4) es4 rfl (PL.out.own.ext ((Ext.refl _).alloc _)) ⟨_,0,none⟩ 1 ⟨6,m,(m:Int)+1,0,nV⟩ [.int .i64 6,.int .i64 m,.int .i64 ((m:Int)+1),.int .i64 0,.int .i64 0,.int .i64 0,.string ⟨#[]⟩] rfl ⟨rfl,⟨okI_small (z:=6) (by decide),(show okI (m:Int)from by unfold okI;omega),hmI,okI_small (z:=0) (by decide)⟩,ok_nV⟩ (by exact cells_new _ [.int .i64 6,.int .i64 m,.int .i64 ((m:Int)+1),.int .i64 0,.int .i64 0,.int .i64 0,.string ⟨#[]⟩] _) A1 A2 (Nat.le_trans PL.out.hb ((Ext.refl _).alloc _).size) ?_))
      intro g5 cap5 w5 own5 gr5 hg5
      rw [HLes4.out]at own5 ⊢
      have PM0:=Lib.hid ((PL.out.ext ((Ext.refl _).alloc _)).push own5 gr5 (by rcases hg5 with h | h;exact .inl h;exact .inr (by rw [h];simp)))
      obtain⟨es5,hes5⟩ : ∃z,z=es4 ++ [⟨6,m,(m:Int)+1,0,nV⟩]:=⟨_,rfl⟩
      rw [←hes5]at PM0
      have PM:=PM0
      have HE5:=Lib.hid hes5
      have HLes5:=Lib.hid (show es5.length=m+1+1+1 from by rw [hes5,List.length_append,HLes4.out];rfl)
      clear own5 gr5 hg5 PL A1 A2 hes5 PM0 b2 b3 e2 hmI
      have b3:=PM.out.b3
      have e3:=cell_lt b3
      by_cases c5:x3 % 4=0
      ·have hb5:(x3 % 4==0)=true:=by simp [c5]
       have hmJ:okI ((m:Int)+2):=by unfold okI;omega
       have A1:es5.length+1≤maxLen:=by have:=HLes5.out;unfold maxLen;omega
       have A2:(es5.length+1)*64≤140737488355328:=by have:=HLes5.out;omega
       go_wp2_with (at_builtin;go_loud (refine wpList_append_one Rep.expr (fun _=>True) rfl _ _ 23 rfl base 66 i7 _ 64 Tryz.underlying23 hi7 hz70 hz71 hz72 rfl (by decide) (.slice (some ⟨g5,0,none⟩) (m+1+1+1) cap5) es5 rfl (PM.out.own.ext ((Ext.refl _).alloc _)) ⟨_,0,none⟩ 1 ⟨10,(m:Int)+2,0,0,nV⟩ [.int .i64 10,.int .i64 ((m:Int)+2),.int .i64 0,.int .i64 0,.int .i64 0,.int .i64 0,.string ⟨#[]⟩] rfl ⟨rfl,⟨okI_small (z:=10) (by decide),hmJ,okI_small (z:=0) (by decide),okI_small (z:=0) (by decide)⟩,ok_nV⟩ (by exact cells_new _ [.int .i64 10,.int .i64 ((m:Int)+2),.int .i64 0,.int .i64 0,.int .i64 0,.int .i64 0,.string ⟨#[]⟩] _) A1 A2 (Nat.le_trans PM.out.hb ((Ext.refl _).alloc _).size) ?_))
       intro g6 cap6 w6 own6 gr6 hg6
       rw [HLes5.out]at own6 ⊢
       have PQ0:=Lib.hid ((PM.out.ext ((Ext.refl _).alloc _)).push own6 gr6 (by rcases hg6 with h | h;exact .inl h;exact .inr (by rw [h];simp)))
       obtain⟨es6,hes6⟩ : ∃z,z=es5 ++ [⟨10,(m:Int)+2,0,0,nV⟩]:=⟨_,rfl⟩
       rw [←hes6]at PQ0
       have PQ:=PQ0
       have HE6:=Lib.hid hes6
       have HLes6:=Lib.hid (show es6.length=m+1+1+1+1 from by rw [hes6,List.length_append,HLes5.out];rfl)
       clear own6 gr6 hg6 PM A1 A2 hes6 PQ0 b3 e3 hmJ
       have HLLAST:=HLes6
       go_wp2_with fail
       exact bodyPost_ret (v:= .tuple #[.slice (some ⟨g6,0,none⟩) (m+1+1+1+1) cap6,.int .i64 ((m:Int)+1+1+1)]) (by simp [results,Tryz.results34,go_sem]) rfl (PQ.out.fin (by rw [HE6.out,HE5.out,HE4.out,HE2.out,HFULL.out,if_neg c1,if_pos ⟨C2.out,c3⟩,if_neg c4,if_pos c5];simp) (by have h:=HLLAST.out;omega))
      ·have hb5:(x3 % 4==0)=false:=by simp [c5]
       have HLLAST:=HLes5
       go_wp2_with fail
       exact bodyPost_ret (v:= .tuple #[.slice (some ⟨g5,0,none⟩) (m+1+1+1) cap5,.int .i64 ((m:Int)+1+1)]) (by simp [results,Tryz.results34,go_sem]) rfl (PM.out.fin (by rw [HE5.out,HE4.out,HE2.out,HFULL.out,if_neg c1,if_pos ⟨C2.out,c3⟩,if_neg c4,if_neg c5];simp) (by have h:=HLLAST.out;omega))
    ·have hb3:decide (x2 % 5<3)=false:=by simp [c3]
     go_wp2_with fail
     go_quiet (fail)
     obtain⟨wq,hwq⟩ : ∃z,z=w2.drewN nq:=⟨_,rfl⟩
     have PK:=Lib.hid (show PIn w wq bx base 66 x0 x1 x2 x3 (.slice pe m ce) (.slice (some ⟨g2,0,none⟩) (m+1) cap2) es2 from by rw [hwq];exact PJ.out.ext ((Ext.refl w2).drewN nq))
     rw [←hwq]
     have HNB:=Lib.hid (show ∀x,(Value.slice (some ⟨g2,0,none⟩) (m+1) cap2).ownBlock=some x→x≠bk∧x≠bx from fun x hx=>⟨fun e=>by
      have h1:=(PJ.out.ne x hx).2
      have h2:=on_some.1 HKI.out.1
      have h3:=cell_lt h2.2
      rcases h1 with h1 | h1
      ·exact h2.1 (by rw [h1,e])
      ·omega,(PJ.out.ne x hx).1⟩)
     have hS0:wq.drew.cell? ⟨bk,ok+i,none⟩=some (.int .i64 ki)∧wq.drew.cell? ⟨bx,3,none⟩=some (.int .u16 x3):=⟨PK.out.chg.drew.at (on_some.1 HKI.out.1).2 (on_some.1 HKI.out.1).1,(Ext.refl wq).drew.at PK.out.b3⟩
     obtain⟨y,hy⟩ : ∃y,y=constV ki x3:=⟨_,rfl⟩
     have HOY:=Lib.hid (show okVal y from by rw [hy];exact ok_constV _ _)
     have HCON:=Lib.hid (fun wz=>constant_any ki x3 wz HX.out.2.2.2.1 HX.out.2.2.2.2)
     rw [←hy]at HCON
     have HY:=Lib.hid hy
     obtain⟨yk,yn,ys⟩:=y
     have A1:es2.length+1≤maxLen:=by have:=HLes2.out;unfold maxLen;omega
     have A2:(es2.length+1)*64≤140737488355328:=by have:=HLes2.out;omega
     have e5:=cell_lt PK.out.b3
     clear b2 b3 e1 kc0 kc1 PJ hwq hy
     go_wp2_with fail
     go_region_held3 (fun w'=>w'.cell? ⟨bk,ok+i,none⟩=some (.int .i64 ki)∧w'.cell? ⟨bx,3,none⟩=some (.int .u16 x3))
      (first |with_reducible assumption | with_reducible exact K7 | with_reducible exact keepC2 K7 ((Ext.refl _).alloc _) | with_reducible exact K8)
      (first
       |(go_at_call 74;(with_reducible refine(HCON.out _).mono ?_);rintro e w7 ⟨rfl,x7⟩;unfold valV;dsimp only;have X7:=Lib.hid (show Ext wq w7 from (Ext.refl wq).drew.trans x7);have K7:w7.cell? ⟨bk,ok+i,none⟩=some (.int .i64 ki)∧w7.cell? ⟨bx,3,none⟩=some (.int .u16 x3):=⟨x7.at hS0.1,x7.at hS0.2⟩)
       |(refine step_append_one Rep.expr (fun _=>True) rfl _ _ 23 rfl base 66 i7 _ 64 Tryz.underlying23 hi7 hz70 hz71 hz72 rfl (by decide) (.slice (some ⟨g2,0,none⟩) (m+1) cap2) es2 rfl (PK.out.own.ext (X7.out.alloc _)) ⟨_,0,none⟩ 1 ⟨1,0,0,0,⟨yk,yn,ys⟩⟩ [.int .i64 1,.int .i64 0,.int .i64 0,.int .i64 0,.int .i64 yk,.int .i64 yn,.string ys] rfl ⟨rfl,⟨okI_small (z:=1) (by decide),okI_small (z:=0) (by decide),okI_small (z:=0) (by decide),okI_small (z:=0) (by decide)⟩,HOY.out⟩ (cells_new _ [.int .i64 1,.int .i64 0,.int .i64 0,.int .i64 0,.int .i64 yk,.int .i64 yn,.string ys] _) A1 A2 (Nat.le_trans PK.out.hb (X7.out.alloc (.cells [.int .i64 1,.int .i64 0,.int .i64 0,.int .i64 0,.int .i64 yk,.int .i64 yn,.string ys].toArray 66)).size) ?_;intro g4 cap4 w4 own4 gr4 hg4;have X7a:=X7.out.alloc (.cells [.int .i64 1,.int .i64 0,.int .i64 0,.int .i64 0,.int .i64 yk,.int .i64 yn,.string ys].toArray 66);have K8:w4.cell? ⟨bk,ok+i,none⟩=some (.int .i64 ki)∧w4.cell? ⟨bx,3,none⟩=some (.int .u16 x3):=⟨cell_grown gr4 (((Ext.refl w7).alloc _).at K7.1) (fun x hx=>(HNB.out x hx).1),cell_grown gr4 (((Ext.refl w7).alloc _).at K7.2) (fun x hx=>(HNB.out x hx).2)⟩))
     rw [HLes2.out]at own4 ⊢
     have PL0:=Lib.hid ((PK.out.ext X7a).push own4 gr4 (by rcases hg4 with h | h;exact .inl h;exact .inr (by rw [h];try simp)))
     obtain⟨es4,hes4⟩ : ∃z,z=es2 ++ [(⟨1,0,0,0,⟨yk,yn,ys⟩⟩:ExprI)]:=⟨_,rfl⟩
     rw [←hes4]at PL0
     have PL:=PL0
     have HE4:=Lib.hid (show es4=es2 ++ [⟨1,0,0,0,constV ki x3⟩]from by rw [hes4,HY.out])
     have HLes4:=Lib.hid (show es4.length=m+1+1 from by rw [hes4,List.length_append,HLes2.out];rfl)
     clear own4 gr4 hg4 PK A1 A2 hes4 PL0 K8 K7 X7a x7 hS0 e5
     by_cases c4:x2 % 2=0
     ·have hb4:(x2 % 2==0)=true:=by simp [c4]
      have b2:=PL.out.b2
      have b3:=PL.out.b3
      have e2:=cell_lt b2
      have hmI:okI ((m:Int)+1):=by unfold okI;omega
      have A1:es4.length+1≤maxLen:=by have:=HLes4.out;unfold maxLen;omega
      have A2:(es4.length+1)*64≤140737488355328:=by have:=HLes4.out;omega
      go_wp2_with (at_builtin;go_loud (refine wpList_append_one Rep.expr (fun _=>True) rfl _ _ 23 rfl base 66 i7 _ 64 Tryz.underlying23 hi7 hz70 hz71 hz72 rfl (by decide) (.slice (some ⟨g4,0,none⟩) (m+1+1) cap4) es4 rfl (PL.out.own.ext ((Ext.refl _).alloc _)) ⟨_,0,none⟩ 1 ⟨7,m,(m:Int)+1,0,nV⟩ [.int .i64 7,.int .i64 m,.int .i64 ((m:Int)+1),.int .i64 0,.int .i64 0,.int .i64 0,.string ⟨#[]⟩] rfl ⟨rfl,⟨okI_small (z:=7) (by decide),(show okI (m:Int)from by unfold okI;omega),hmI,okI_small (z:=0) (by decide)⟩,ok_nV⟩ (by exact cells_new _ [.int .i64 7,.int .i64 m,.int .i64 ((m:Int)+1),.int .i64 0,.int .i64 0,.int .i64 0,.string ⟨#[]⟩] _) A1 A2 (Nat.le_trans PL.out.hb ((Ext.refl _).alloc _).size) ?_))
      intro g5 cap5 w5 own5 gr5 hg5
      rw [HLes4.out]at own5 ⊢
      have PM0:=Lib.hid ((PL.out.ext ((Ext.refl _).alloc _)).push own5 gr5 (by rcases hg5 with h | h;exact .inl h;exact .inr (by rw [h];simp)))
      obtain⟨es5,hes5⟩ : ∃z,z=es4 ++ [⟨7,m,(m:Int)+1,0,nV⟩]:=⟨_,rfl⟩
      rw [←hes5]at PM0
      have PM:=PM0
      have HE5:=Lib.hid hes5
      have HLes5:=Lib.hid (show es5.length=m+1+1+1 from by rw [hes5,List.length_append,HLes4.out];rfl)
      clear own5 gr5 hg5 PL A1 A2 hes5 PM0 b2 b3 e2 hmI
      have b3:=PM.out.b3
      have e3:=cell_lt b3
      by_cases c5:x3 % 4=0
      ·have hb5:(x3 % 4==0)=true:=by simp [c5]
       have hmJ:okI ((m:Int)+2):=by unfold okI;omega
       have A1:es5.length+1≤maxLen:=by have:=HLes5.out;unfold maxLen;omega
       have A2:(es5.length+1)*64≤140737488355328:=by have:=HLes5.out;omega
       go_wp2_with (at_builtin;go_loud (refine wpList_append_one Rep.expr (fun _=>True) rfl _ _ 23 rfl base 66 i7 _ 64 Tryz.underlying23 hi7 hz70 hz71 hz72 rfl (by decide) (.slice (some ⟨g5,0,none⟩) (m+1+1+1) cap5) es5 rfl (PM.out.own.ext ((Ext.refl _).alloc _)) ⟨_,0,none⟩ 1 ⟨10,(m:Int)+2,0,0,nV⟩ [.int .i64 10,.int .i64 ((m:Int)+2),.int .i64 0,.int .i64 0,.int .i64 0,.int .i64 0,.string ⟨#[]⟩] rfl ⟨rfl,⟨okI_small (z:=10) (by decide),hmJ,okI_small (z:=0) (by decide),okI_small (z:=0) (by decide)⟩,ok_nV⟩ (by exact cells_new _ [.int .i64 10,.int .i64 ((m:Int)+2),.int .i64 0,.int .i64 0,.int .i64 0,.int .i64 0,.string ⟨#[]⟩] _) A1 A2 (Nat.le_trans PM.out.hb ((Ext.refl _).alloc _).size) ?_))
       intro g6 cap6 w6 own6 gr6 hg6
       rw [HLes5.out]at own6 ⊢
       have PQ0:=Lib.hid ((PM.out.ext ((Ext.refl _).alloc _)).push own6 gr6 (by rcases hg6 with h | h;exact .inl h;exact .inr (by rw [h];simp)))
       obtain⟨es6,hes6⟩ : ∃z,z=es5 ++ [⟨10,(m:Int)+2,0,0,nV⟩]:=⟨_,rfl⟩
       rw [←hes6]at PQ0
       have PQ:=PQ0
       have HE6:=Lib.hid hes6
       have HLes6:=Lib.hid (show es6.length=m+1+1+1+1 from by rw [hes6,List.length_append,HLes5.out];rfl)
       clear own6 gr6 hg6 PM A1 A2 hes6 PQ0 b3 e3 hmJ
       have HLLAST:=HLes6
       go_wp2_with fail
       exact bodyPost_ret (v:= .tuple #[.slice (some ⟨g6,0,none⟩) (m+1+1+1+1) cap6,.int .i64 ((m:Int)+1+1+1)]) (by simp [results,Tryz.results34,go_sem]) rfl (PQ.out.fin (by rw [HE6.out,HE5.out,HE4.out,HE2.out,HFULL.out,if_neg c1,if_neg (fun h=>by have:=h.2;omega),if_pos c4,if_pos c5];simp) (by have h:=HLLAST.out;omega))
      ·have hb5:(x3 % 4==0)=false:=by simp [c5]
       have HLLAST:=HLes5
       go_wp2_with fail
       exact bodyPost_ret (v:= .tuple #[.slice (some ⟨g5,0,none⟩) (m+1+1+1) cap5,.int .i64 ((m:Int)+1+1)]) (by simp [results,Tryz.results34,go_sem]) rfl (PM.out.fin (by rw [HE5.out,HE4.out,HE2.out,HFULL.out,if_neg c1,if_neg (fun h=>by have:=h.2;omega),if_pos c4,if_neg c5];simp) (by have h:=HLLAST.out;omega))
     ·have hb4:(x2 % 2==0)=false:=by simp [c4]
      have b2:=PL.out.b2
      have b3:=PL.out.b3
      have e2:=cell_lt b2
      have hmI:okI ((m:Int)+1):=by unfold okI;omega
      have A1:es4.length+1≤maxLen:=by have:=HLes4.out;unfold maxLen;omega
      have A2:(es4.length+1)*64≤140737488355328:=by have:=HLes4.out;omega
      go_wp2_with (at_builtin;go_loud (refine wpList_append_one Rep.expr (fun _=>True) rfl _ _ 23 rfl base 66 i7 _ 64 Tryz.underlying23 hi7 hz70 hz71 hz72 rfl (by decide) (.slice (some ⟨g4,0,none⟩) (m+1+1) cap4) es4 rfl (PL.out.own.ext ((Ext.refl _).alloc _)) ⟨_,0,none⟩ 1 ⟨6,m,(m:Int)+1,0,nV⟩ [.int .i64 6,.int .i64 m,.int .i64 ((m:Int)+1),.int .i64 0,.int .i64 0,.int .i64 0,.string ⟨#[]⟩] rfl ⟨rfl,⟨okI_small (z:=6) (by decide),(show okI (m:Int)from by unfold okI;omega),hmI,okI_small (z:=0) (by decide)⟩,ok_nV⟩ (by exact cells_new _ [.int .i64 6,.int .i64 m,.int .i64 ((m:Int)+1),.int .i64 0,.int .i64 0,.int .i64 0,.string ⟨#[]⟩] _) A1 A2 (Nat.le_trans PL.out.hb ((Ext.refl _).alloc _).size) ?_))
      intro g5 cap5 w5 own5 gr5 hg5
      rw [HLes4.out]at own5 ⊢
      have PM0:=Lib.hid ((PL.out.ext ((Ext.refl _).alloc _)).push own5 gr5 (by rcases hg5 with h | h;exact .inl h;exact .inr (by rw [h];simp)))
      obtain⟨es5,hes5⟩ : ∃z,z=es4 ++ [⟨6,m,(m:Int)+1,0,nV⟩]:=⟨_,rfl⟩
      rw [←hes5]at PM0
      have PM:=PM0
      have HE5:=Lib.hid hes5
      have HLes5:=Lib.hid (show es5.length=m+1+1+1 from by rw [hes5,List.length_append,HLes4.out];rfl)
      clear own5 gr5 hg5 PL A1 A2 hes5 PM0 b2 b3 e2 hmI
      have b3:=PM.out.b3
      have e3:=cell_lt b3
      by_cases c5:x3 % 4=0
      ·have hb5:(x3 % 4==0)=true:=by simp [c5]
       have hmJ:okI ((m:Int)+2):=by unfold okI;omega
       have A1:es5.length+1≤maxLen:=by have:=HLes5.out;unfold maxLen;omega
       have A2:(es5.length+1)*64≤140737488355328:=by have:=HLes5.out;omega
       go_wp2_with (at_builtin;go_loud (refine wpList_append_one Rep.expr (fun _=>True) rfl _ _ 23 rfl base 66 i7 _ 64 Tryz.underlying23 hi7 hz70 hz71 hz72 rfl (by decide) (.slice (some ⟨g5,0,none⟩) (m+1+1+1) cap5) es5 rfl (PM.out.own.ext ((Ext.refl _).alloc _)) ⟨_,0,none⟩ 1 ⟨10,(m:Int)+2,0,0,nV⟩ [.int .i64 10,.int .i64 ((m:Int)+2),.int .i64 0,.int .i64 0,.int .i64 0,.int .i64 0,.string ⟨#[]⟩] rfl ⟨rfl,⟨okI_small (z:=10) (by decide),hmJ,okI_small (z:=0) (by decide),okI_small (z:=0) (by decide)⟩,ok_nV⟩ (by exact cells_new _ [.int .i64 10,.int .i64 ((m:Int)+2),.int .i64 0,.int .i64 0,.int .i64 0,.int .i64 0,.string ⟨#[]⟩] _) A1 A2 (Nat.le_trans PM.out.hb ((Ext.refl _).alloc _).size) ?_))
       intro g6 cap6 w6 own6 gr6 hg6
       rw [HLes5.out]at own6 ⊢
       have PQ0:=Lib.hid ((PM.out.ext ((Ext.refl _).alloc _)).push own6 gr6 (by rcases hg6 with h | h;exact .inl h;exact .inr (by rw [h];simp)))
       obtain⟨es6,hes6⟩ : ∃z,z=es5 ++ [⟨10,(m:Int)+2,0,0,nV⟩]:=⟨_,rfl⟩
       rw [←hes6]at PQ0
       have PQ:=PQ0
       have HE6:=Lib.hid hes6
       have HLes6:=Lib.hid (show es6.length=m+1+1+1+1 from by rw [hes6,List.length_append,HLes5.out];rfl)
       clear own6 gr6 hg6 PM A1 A2 hes6 PQ0 b3 e3 hmJ
       have HLLAST:=HLes6
       go_wp2_with fail
       exact bodyPost_ret (v:= .tuple #[.slice (some ⟨g6,0,none⟩) (m+1+1+1+1) cap6,.int .i64 ((m:Int)+1+1+1)]) (by simp [results,Tryz.results34,go_sem]) rfl (PQ.out.fin (by rw [HE6.out,HE5.out,HE4.out,HE2.out,HFULL.out,if_neg c1,if_neg (fun h=>by have:=h.2;omega),if_neg c4,if_pos c5];simp) (by have h:=HLLAST.out;omega))
      ·have hb5:(x3 % 4==0)=false:=by simp [c5]
       have HLLAST:=HLes5
       go_wp2_with fail
       exact bodyPost_ret (v:= .tuple #[.slice (some ⟨g5,0,none⟩) (m+1+1+1) cap5,.int .i64 ((m:Int)+1+1)]) (by simp [results,Tryz.results34,go_sem]) rfl (PM.out.fin (by rw [HE5.out,HE4.out,HE2.out,HFULL.out,if_neg c1,if_neg (fun h=>by have:=h.2;omega),if_neg c4,if_neg c5];simp) (by have h:=HLLAST.out;omega))
   ·have hb2:(ki==kk)=false:=by simp [c2]
    go_wp2_with fail
    go_quiet (fail)
    obtain⟨wq,hwq⟩ : ∃z,z=w2.drewN nq:=⟨_,rfl⟩
    have PK:=Lib.hid (show PIn w wq bx base 66 x0 x1 x2 x3 (.slice pe m ce) (.slice (some ⟨g2,0,none⟩) (m+1) cap2) es2 from by rw [hwq];exact PJ.out.ext ((Ext.refl w2).drewN nq))
    rw [←hwq]
    have HNB:=Lib.hid (show ∀x,(Value.slice (some ⟨g2,0,none⟩) (m+1) cap2).ownBlock=some x→x≠bk∧x≠bx from fun x hx=>⟨fun e=>by
     have h1:=(PJ.out.ne x hx).2
     have h2:=on_some.1 HKI.out.1
     have h3:=cell_lt h2.2
     rcases h1 with h1 | h1
     ·exact h2.1 (by rw [h1,e])
     ·omega,(PJ.out.ne x hx).1⟩)
    have hS0:wq.drew.cell? ⟨bk,ok+i,none⟩=some (.int .i64 ki)∧wq.drew.cell? ⟨bx,3,none⟩=some (.int .u16 x3):=⟨PK.out.chg.drew.at (on_some.1 HKI.out.1).2 (on_some.1 HKI.out.1).1,(Ext.refl wq).drew.at PK.out.b3⟩
    obtain⟨y,hy⟩ : ∃y,y=constV ki x3:=⟨_,rfl⟩
    have HOY:=Lib.hid (show okVal y from by rw [hy];exact ok_constV _ _)
    have HCON:=Lib.hid (fun wz=>constant_any ki x3 wz HX.out.2.2.2.1 HX.out.2.2.2.2)
    rw [←hy]at HCON
    have HY:=Lib.hid hy
    obtain⟨yk,yn,ys⟩:=y
    have A1:es2.length+1≤maxLen:=by have:=HLes2.out;unfold maxLen;omega
    have A2:(es2.length+1)*64≤140737488355328:=by have:=HLes2.out;omega
    have e5:=cell_lt PK.out.b3
    clear b2 b3 e1 kc0 kc1 PJ hwq hy
    go_wp2_with fail
    go_region_held3 (fun w'=>w'.cell? ⟨bk,ok+i,none⟩=some (.int .i64 ki)∧w'.cell? ⟨bx,3,none⟩=some (.int .u16 x3))
     (first |with_reducible assumption | with_reducible exact K7 | with_reducible exact keepC2 K7 ((Ext.refl _).alloc _) | with_reducible exact K8)
     (first
      |(go_at_call 74;(with_reducible refine(HCON.out _).mono ?_);rintro e w7 ⟨rfl,x7⟩;unfold valV;dsimp only;have X7:=Lib.hid (show Ext wq w7 from (Ext.refl wq).drew.trans x7);have K7:w7.cell? ⟨bk,ok+i,none⟩=some (.int .i64 ki)∧w7.cell? ⟨bx,3,none⟩=some (.int .u16 x3):=⟨x7.at hS0.1,x7.at hS0.2⟩)
      |(refine step_append_one Rep.expr (fun _=>True) rfl _ _ 23 rfl base 66 i7 _ 64 Tryz.underlying23 hi7 hz70 hz71 hz72 rfl (by decide) (.slice (some ⟨g2,0,none⟩) (m+1) cap2) es2 rfl (PK.out.own.ext (X7.out.alloc _)) ⟨_,0,none⟩ 1 ⟨1,0,0,0,⟨yk,yn,ys⟩⟩ [.int .i64 1,.int .i64 0,.int .i64 0,.int .i64 0,.int .i64 yk,.int .i64 yn,.string ys] rfl ⟨rfl,⟨okI_small (z:=1) (by decide),okI_small (z:=0) (by decide),okI_small (z:=0) (by decide),okI_small (z:=0) (by decide)⟩,HOY.out⟩ (cells_new _ [.int .i64 1,.int .i64 0,.int .i64 0,.int .i64 0,.int .i64 yk,.int .i64 yn,.string ys] _) A1 A2 (Nat.le_trans PK.out.hb (X7.out.alloc (.cells [.int .i64 1,.int .i64 0,.int .i64 0,.int .i64 0,.int .i64 yk,.int .i64 yn,.string ys].toArray 66)).size) ?_;intro g4 cap4 w4 own4 gr4 hg4;have X7a:=X7.out.alloc (.cells [.int .i64 1,.int .i64 0,.int .i64 0,.int .i64 0,.int .i64 yk,.int .i64 yn,.string ys].toArray 66);have K8:w4.cell? ⟨bk,ok+i,none⟩=some (.int .i64 ki)∧w4.cell? ⟨bx,3,none⟩=some (.int .u16 x3):=⟨cell_grown gr4 (((Ext.refl w7).alloc _).at K7.1) (fun x hx=>(HNB.out x hx).1),cell_grown gr4 (((Ext.refl w7).alloc _).at K7.2) (fun x hx=>(HNB.out x hx).2)⟩))
    rw [HLes2.out]at own4 ⊢
    have PL0:=Lib.hid ((PK.out.ext X7a).push own4 gr4 (by rcases hg4 with h | h;exact .inl h;exact .inr (by rw [h];try simp)))
    obtain⟨es4,hes4⟩ : ∃z,z=es2 ++ [(⟨1,0,0,0,⟨yk,yn,ys⟩⟩:ExprI)]:=⟨_,rfl⟩
    rw [←hes4]at PL0
    have PL:=PL0
    have HE4:=Lib.hid (show es4=es2 ++ [⟨1,0,0,0,constV ki x3⟩]from by rw [hes4,HY.out])
    have HLes4:=Lib.hid (show es4.length=m+1+1 from by rw [hes4,List.length_append,HLes2.out];rfl)
    clear own4 gr4 hg4 PK A1 A2 hes4 PL0 K8 K7 X7a x7 hS0 e5
    by_cases c4:x2 % 2=0
    ·have hb4:(x2 % 2==0)=true:=by simp [c4]
     have b2:=PL.out.b2
     have b3:=PL.out.b3
     have e2:=cell_lt b2
     have hmI:okI ((m:Int)+1):=by unfold okI;omega
     have A1:es4.length+1≤maxLen:=by have:=HLes4.out;unfold maxLen;omega
     have A2:(es4.length+1)*64≤140737488355328:=by have:=HLes4.out;omega
     go_wp2_with (at_builtin;go_loud (refine wpList_append_one Rep.expr (fun _=>True) rfl _ _ 23 rfl base 66 i7 _ 64 Tryz.underlying23 hi7 hz70 hz71 hz72 rfl (by decide) (.slice (some ⟨g4,0,none⟩) (m+1+1) cap4) es4 rfl (PL.out.own.ext ((Ext.refl _).alloc _)) ⟨_,0,none⟩ 1 ⟨7,m,(m:Int)+1,0,nV⟩ [.int .i64 7,.int .i64 m,.int .i64 ((m:Int)+1),.int .i64 0,.int .i64 0,.int .i64 0,.string ⟨#[]⟩] rfl ⟨rfl,⟨okI_small (z:=7) (by decide),(show okI (m:Int)from by unfold okI;omega),hmI,okI_small (z:=0) (by decide)⟩,ok_nV⟩ (by exact cells_new _ [.int .i64 7,.int .i64 m,.int .i64 ((m:Int)+1),.int .i64 0,.int .i64 0,.int .i64 0,.string ⟨#[]⟩] _) A1 A2 (Nat.le_trans PL.out.hb ((Ext.refl _).alloc _).size) ?_))
     intro g5 cap5 w5 own5 gr5 hg5
     rw [HLes4.out]at own5 ⊢
     have PM0:=Lib.hid ((PL.out.ext ((Ext.refl _).alloc _)).push own5 gr5 (by rcases hg5 with h | h;exact .inl h;exact .inr (by rw [h];simp)))
     obtain⟨es5,hes5⟩ : ∃z,z=es4 ++ [⟨7,m,(m:Int)+1,0,nV⟩]:=⟨_,rfl⟩
     rw [←hes5]at PM0
     have PM:=PM0
     have HE5:=Lib.hid hes5
     have HLes5:=Lib.hid (show es5.length=m+1+1+1 from by rw [hes5,List.length_append,HLes4.out];rfl)
     clear own5 gr5 hg5 PL A1 A2 hes5 PM0 b2 b3 e2 hmI
     have b3:=PM.out.b3
     have e3:=cell_lt b3
     by_cases c5:x3 % 4=0
     ·have hb5:(x3 % 4==0)=true:=by simp [c5]
      have hmJ:okI ((m:Int)+2):=by unfold okI;omega
      have A1:es5.length+1≤maxLen:=by have:=HLes5.out;unfold maxLen;omega
      have A2:(es5.length+1)*64≤140737488355328:=by have:=HLes5.out;omega
      go_wp2_with (at_builtin;go_loud (refine wpList_append_one Rep.expr (fun _=>True) rfl _ _ 23 rfl base 66 i7 _ 64 Tryz.underlying23 hi7 hz70 hz71 hz72 rfl (by decide) (.slice (some ⟨g5,0,none⟩) (m+1+1+1) cap5) es5 rfl (PM.out.own.ext ((Ext.refl _).alloc _)) ⟨_,0,none⟩ 1 ⟨10,(m:Int)+2,0,0,nV⟩ [.int .i64 10,.int .i64 ((m:Int)+2),.int .i64 0,.int .i64 0,.int .i64 0,.int .i64 0,.string ⟨#[]⟩] rfl ⟨rfl,⟨okI_small (z:=10) (by decide),hmJ,okI_small (z:=0) (by decide),okI_small (z:=0) (by decide)⟩,ok_nV⟩ (by exact cells_new _ [.int .i64 10,.int .i64 ((m:Int)+2),.int .i64 0,.int .i64 0,.int .i64 0,.int .i64 0,.string ⟨#[]⟩] _) A1 A2 (Nat.le_trans PM.out.hb ((Ext.refl _).alloc _).size) ?_))
      intro g6 cap6 w6 own6 gr6 hg6
      rw [HLes5.out]at own6 ⊢
      have PQ0:=Lib.hid ((PM.out.ext ((Ext.refl _).alloc _)).push own6 gr6 (by rcases hg6 with h | h;exact .inl h;exact .inr (by rw [h];simp)))
      obtain⟨es6,hes6⟩ : ∃z,z=es5 ++ [⟨10,(m:Int)+2,0,0,nV⟩]:=⟨_,rfl⟩
      rw [←hes6]at PQ0
      have PQ:=PQ0
      have HE6:=Lib.hid hes6
      have HLes6:=Lib.hid (show es6.length=m+1+1+1+1 from by rw [hes6,List.length_append,HLes5.out];rfl)
      clear own6 gr6 hg6 PM A1 A2 hes6 PQ0 b3 e3 hmJ
      have HLLAST:=HLes6
      go_wp2_with fail
      exact bodyPost_ret (v:= .tuple #[.slice (some ⟨g6,0,none⟩) (m+1+1+1+1) cap6,.int .i64 ((m:Int)+1+1+1)]) (by simp [results,Tryz.results34,go_sem]) rfl (PQ.out.fin (by rw [HE6.out,HE5.out,HE4.out,HE2.out,HFULL.out,if_neg c1,if_neg (fun h=>c2 h.1),if_pos c4,if_pos c5];simp) (by have h:=HLLAST.out;omega))
     ·have hb5:(x3 % 4==0)=false:=by simp [c5]
      have HLLAST:=HLes5
      go_wp2_with fail
      exact bodyPost_ret (v:= .tuple #[.slice (some ⟨g5,0,none⟩) (m+1+1+1) cap5,.int .i64 ((m:Int)+1+1)]) (by simp [results,Tryz.results34,go_sem]) rfl (PM.out.fin (by rw [HE5.out,HE4.out,HE2.out,HFULL.out,if_neg c1,if_neg (fun h=>c2 h.1),if_pos c4,if_neg c5];simp) (by have h:=HLLAST.out;omega))
    ·have hb4:(x2 % 2==0)=false:=by simp [c4]
     have b2:=PL.out.b2
     have b3:=PL.out.b3
     have e2:=cell_lt b2
     have hmI:okI ((m:Int)+1):=by unfold okI;omega
     have A1:es4.length+1≤maxLen:=by have:=HLes4.out;unfold maxLen;omega
     have A2:(es4.length+1)*64≤140737488355328:=by have:=HLes4.out;omega
     go_wp2_with (at_builtin;go_loud (refine wpList_append_one Rep.expr (fun _=>True) rfl _ _ 23 rfl base 66 i7 _ 64 Tryz.underlying23 hi7 hz70 hz71 hz72 rfl (by decide) (.slice (some ⟨g4,0,none⟩) (m+1+1) cap4) es4 rfl (PL.out.own.ext ((Ext.refl _).alloc _)) ⟨_,0,none⟩ 1 ⟨6,m,(m:Int)+1,0,nV⟩ [.int .i64 6,.int .i64 m,.int .i64 ((m:Int)+1),.int .i64 0,.int .i64 0,.int .i64 0,.string ⟨#[]⟩] rfl ⟨rfl,⟨okI_small (z:=6) (by decide),(show okI (m:Int)from by unfold okI;omega),hmI,okI_small (z:=0) (by decide)⟩,ok_nV⟩ (by exact cells_new _ [.int .i64 6,.int .i64 m,.int .i64 ((m:Int)+1),.int .i64 0,.int .i64 0,.int .i64 0,.string ⟨#[]⟩] _) A1 A2 (Nat.le_trans PL.out.hb ((Ext.refl _).alloc _).size) ?_))
     intro g5 cap5 w5 own5 gr5 hg5
     rw [HLes4.out]at own5 ⊢
     have PM0:=Lib.hid ((PL.out.ext ((Ext.refl _).alloc _)).push own5 gr5 (by rcases hg5 with h | h;exact .inl h;exact .inr (by rw [h];simp)))
     obtain⟨es5,hes5⟩ : ∃z,z=es4 ++ [⟨6,m,(m:Int)+1,0,nV⟩]:=⟨_,rfl⟩
     rw [←hes5]at PM0
     have PM:=PM0
     have HE5:=Lib.hid hes5
     have HLes5:=Lib.hid (show es5.length=m+1+1+1 from by rw [hes5,List.length_append,HLes4.out];rfl)
     clear own5 gr5 hg5 PL A1 A2 hes5 PM0 b2 b3 e2 hmI
     have b3:=PM.out.b3
     have e3:=cell_lt b3
     by_cases c5:x3 % 4=0
     ·have hb5:(x3 % 4==0)=true:=by simp [c5]
      have hmJ:okI ((m:Int)+2):=by unfold okI;omega
      have A1:es5.length+1≤maxLen:=by have:=HLes5.out;unfold maxLen;omega
      have A2:(es5.length+1)*64≤140737488355328:=by have:=HLes5.out;omega
      go_wp2_with (at_builtin;go_loud (refine wpList_append_one Rep.expr (fun _=>True) rfl _ _ 23 rfl base 66 i7 _ 64 Tryz.underlying23 hi7 hz70 hz71 hz72 rfl (by decide) (.slice (some ⟨g5,0,none⟩) (m+1+1+1) cap5) es5 rfl (PM.out.own.ext ((Ext.refl _).alloc _)) ⟨_,0,none⟩ 1 ⟨10,(m:Int)+2,0,0,nV⟩ [.int .i64 10,.int .i64 ((m:Int)+2),.int .i64 0,.int .i64 0,.int .i64 0,.int .i64 0,.string ⟨#[]⟩] rfl ⟨rfl,⟨okI_small (z:=10) (by decide),hmJ,okI_small (z:=0) (by decide),okI_small (z:=0) (by decide)⟩,ok_nV⟩ (by exact cells_new _ [.int .i64 10,.int .i64 ((m:Int)+2),.int .i64 0,.int .i64 0,.int .i64 0,.int .i64 0,.string ⟨#[]⟩] _) A1 A2 (Nat.le_trans PM.out.hb ((Ext.refl _).alloc _).size) ?_))
      intro g6 cap6 w6 own6 gr6 hg6
      rw [HLes5.out]at own6 ⊢
      have PQ0:=Lib.hid ((PM.out.ext ((Ext.refl _).alloc _)).push own6 gr6 (by rcases hg6 with h | h;exact .inl h;exact .inr (by rw [h];simp)))
      obtain⟨es6,hes6⟩ : ∃z,z=es5 ++ [⟨10,(m:Int)+2,0,0,nV⟩]:=⟨_,rfl⟩
      rw [←hes6]at PQ0
      have PQ:=PQ0
      have HE6:=Lib.hid hes6
      have HLes6:=Lib.hid (show es6.length=m+1+1+1+1 from by rw [hes6,List.length_append,HLes5.out];rfl)
      clear own6 gr6 hg6 PM A1 A2 hes6 PQ0 b3 e3 hmJ
      have HLLAST:=HLes6
      go_wp2_with fail
      exact bodyPost_ret (v:= .tuple #[.slice (some ⟨g6,0,none⟩) (m+1+1+1+1) cap6,.int .i64 ((m:Int)+1+1+1)]) (by simp [results,Tryz.results34,go_sem]) rfl (PQ.out.fin (by rw [HE6.out,HE5.out,HE4.out,HE2.out,HFULL.out,if_neg c1,if_neg (fun h=>c2 h.1),if_neg c4,if_pos c5];simp) (by have h:=HLLAST.out;omega))
     ·have hb5:(x3 % 4==0)=false:=by simp [c5]
      have HLLAST:=HLes5
      go_wp2_with fail
      exact bodyPost_ret (v:= .tuple #[.slice (some ⟨g5,0,none⟩) (m+1+1+1) cap5,.int .i64 ((m:Int)+1+1)]) (by simp [results,Tryz.results34,go_sem]) rfl (PM.out.fin (by rw [HE5.out,HE4.out,HE2.out,HFULL.out,if_neg c1,if_neg (fun h=>c2 h.1),if_neg c4,if_neg c5];simp) (by have h:=HLLAST.out;omega))
end Go.Proofs.YtombmdaohcjokaaGreatDoor
