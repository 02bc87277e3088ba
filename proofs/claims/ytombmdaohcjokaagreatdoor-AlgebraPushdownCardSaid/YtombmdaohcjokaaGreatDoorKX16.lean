/- joined texts of a proof: EvaN -/
import Derived.Test.YtombmdaohcjokaaGreatDoorKX14
import Derived.Test.YtombmdaohcjokaaGreatDoorKX15
namespace Go.Proofs.YtombmdaohcjokaaGreatDoor
open Go.RowKit Go.Maps Go.Deep
theorem whole_self (l:List Row):WholeOr 4096 l l:=⟨fun _=>rfl,fun h=>h⟩
theorem filter_take {α:Type} (p:α→Bool) (l:List α) (k:Nat) (h:k<l.length):(l.take (k+1)).filter p=(l.take k).filter p++if p l[k]=true then [l[k]]else []:=by
 rw [List.take_succ_eq_append_getElem h,List.filter_append,List.filter_cons,List.filter_nil]
set_option maxRecDepth 100000 in
set_option maxHeartbeats 16000000 in
theorem eselect_any (E:Nat) (q:QueryI) (db:List TabI) (cols:List (List Int)) (vr:Value) (done:List (List Row)) (x:NodeI) (ve va:Value) (w:World) (hX:EvA w E q db cols vr done) (hkd:x.kind=2) (he:SliceOf Rep.int w.cell? ve x.exprs) (hg:SliceOf Rep.agg w.cell? va x.aggs)
  (hla:legN done.length x.a=true) (hD : ∀l∈done,l.length≤4096) (hR : ∀l∈done,∀r∈l,fitE r) (hel:q.exprs.length≤1000) (hxl:x.exprs.length≤1000) (ht:TabW w) :
  Calls Tryz.prog 53 #[.pointer (some ⟨E,0,none⟩),nodeV x ve va] w fun e w'=> ∃v,e = .returned v∧SliceOf Rep.row (on w' (avoid (fun b=>b≠E) vr)) v ((done.getD x.a.toNat []).filter fun r=>trE q.exprs x.pred r.vals)∧Ext w w':=by
 have mixed:=mixedA
 obtain⟨i0,hi,hz0,hz1,hz2⟩:=info_parts infoRow
 obtain⟨p1,c1,rfl,-⟩:=he.form
 obtain⟨p2,c2,rfl,-⟩:=hg.form
 obtain⟨xk,xa,xb,xp,xt,xe,xg⟩:=x
 dsimp only at he hg hla hkd ⊢
 subst hkd
 obtain⟨n1,hn1⟩ : ∃n,n=xe.length:=⟨_,rfl⟩
 obtain⟨n2,hn2⟩ : ∃n,n=xg.length:=⟨_,rfl⟩
 rw [←hn1]at he ⊢
 rw [←hn2]
 have HN1:=Lib.hid hn1
 have HKE:=Lib.hid he
 obtain⟨ja,rfl,hja⟩:=legN_nat hla
 rw [Int.toNat_natCast]
 obtain⟨T,hT⟩ : ∃T:Nat→Prop,T=avoid (fun b=>b≠E) vr:=⟨_,rfl⟩
 have HTT:=Lib.hid (show ∀k,w.heap.size≤k→T k from by rw [hT];exact hX.newT)
 obtain⟨G,cap,pa,nA,ca,hv1,ga,hnA,hpa,ha⟩:=hX.row hja
 have rr:=hX.rr
 rw [hv1]at rr
 obtain⟨pe,ee,re⟩:=hX.ee
 obtain⟨pE,cE,rfl,-⟩:=re.form
 have hla4:=hD (done.getD ja []) (by rw [List.getD_eq_getElem?_getD,List.getElem?_eq_getElem hja,Option.getD_some];exact List.getElem_mem hja)
 have hfa:=hR (done.getD ja []) (by rw [List.getD_eq_getElem?_getD,List.getElem?_eq_getElem hja,Option.getD_some];exact List.getElem_mem hja)
 rw [←hT]at ha re ⊢
 obtain⟨nd,hnd⟩ : ∃n,n=done.length:=⟨_,rfl⟩
 obtain⟨nE,hnE⟩ : ∃n,n=q.exprs.length:=⟨_,rfl⟩
 rw [←hnd]at rr hja
 rw [←hnE]at ee re
 generalize done.getD ja []=A at *
 have HA:=Lib.hid ha
 have HE:=Lib.hid (re.ext (on_sub _ _))
 have HNE:=Lib.hid hnE
 have HEL:=Lib.hid hel
 have HFA:=Lib.hid hfa
 have HLA:=Lib.hid hla4
 have HPA:=Lib.hid hpa
 have HNA:=Lib.hid hnA
 have HTW:=Lib.hid ht
 have HXL:=Lib.hid hxl
 have hnA5:nA≤4096:=by omega
 have hxA:(ja:Int)<(nd:Int):=by omega
 have e0:=cell_lt rr
 have e1:=cell_lt ga
 clear hX hv1 ha re hla4 hfa hpa hnA hnd hnE hT hla hD hR ht hel he hg hn1 hn2 hxl
 go_enter Tryz.func53,Tryz.ntmps53
 go_wp2_with fail
 go_big_region_o
 go_wp2_with fail
 obtain⟨NB,hNB⟩ : ∃z,z=w.heap.size:=⟨_,rfl⟩
 obtain⟨W0,hW0⟩ : ∃z,z=(w.alloc (.cells #[.int .i64 2,.int .i64 (ja:Nat),.int .i64 xb,.int .i64 xp,.string xt,.slice p1 n1 c1,.slice p2 n2 c2] 64)).drew:=⟨_,rfl⟩
 have X0:=Lib.hid (show Ext w W0 from by rw [hW0];exact((Ext.refl w).alloc _).drew)
 have NC:=Lib.hid (show W0.cell? ⟨NB,3,none⟩=some (.int .i64 xp)∧W0.cell? ⟨NB,5,none⟩=some (.slice p1 n1 c1)from by rw [hW0,hNB];exact⟨by go_simp,by go_simp⟩)
 have EC:=Lib.hid (show W0.cell? ⟨E,1,none⟩=some (.slice pE nE cE)from X0.out.at ee)
 rw [←hW0]
 try rw [←hNB]
 have HBW:=Lib.hid (show w.heap.size≤W0.heap.size from X0.out.size)
 clear hW0 hNB ee rr ga e0 e1
 go_loopg [5,32] nA (fun gk vo vi wr=> ∃(k:Nat) (u:Value) (o:List Row),k≤nA∧gk=nA - k∧vi = .int .i64 k∧u=vo∧Hid (OwnOf Rep.row wr T W0.heap.size 58 u o)∧Hid (o=(A.take k).filter fun r=>trE q.exprs xp r.vals)∧Hid (Ext W0 wr))
 case atStart=>exact⟨0,_,[],by omega,rfl,rfl,rfl,OwnOf.nil _ _ _ _ _,rfl,Ext.refl W0⟩
 case round =>
  obtain⟨k,u,o,hk,rfl,rfl,rfl,OW,HO,X⟩:=hrel
  obtain⟨wo,rfl⟩ : ∃z,z=wr:=⟨wr,rfl⟩
  by_cases hlt:k<nA
  ·have hkl:k<A.length:=by have:=HNA.out;omega
   have hd:decide ((k:Int)<(nA:Int))=true:=by simp;omega
   obtain⟨ba,oa,rfl⟩:=HPA.out (by omega)
   have hv:=HA.out
   rw [HNA.out]at hv
   obtain⟨ua,ub,c0,c1',g0,g1⟩:=row_at hv k hkl
   obtain⟨pxa,kxa,rfl,-⟩:=g0.form
   obtain⟨pxb,kxb,rfl,-⟩:=g1.form
   have hst:=filter_take (fun r=>trE q.exprs xp r.vals) A k hkl
   rw [←HO.out]at hst
   have hol:o.length≤4096:=by
    rw [HO.out]
    refine Nat.le_trans (List.length_filter_le _ _) ?_
    rw [List.length_take];omega
   have hfx:=HFA.out A[k] (List.getElem_mem hkl)
   replace c0:=X.out.at (X0.out.at (on_some.1 c0).2)
   replace c1':=X.out.at (X0.out.at (on_some.1 c1').2)
   generalize A[k]=y at c0 c1' g0 g1 hst hfx
   obtain⟨xv,xl⟩:=y
   dsimp only at c0 c1' g0 g1 hst
   have HFX:=Lib.hid hfx
   have HST:=Lib.hid hst
   obtain⟨nxv,hnxv⟩ : ∃z,z=xv.length:=⟨_,rfl⟩
   obtain⟨nxl,hnxl⟩ : ∃z,z=xl.length:=⟨_,rfl⟩
   rw [←hnxv]at c0 g0
   rw [←hnxl]at c1' g1
   have HNXV:=Lib.hid hnxv
   have HG1W:=Lib.hid (g1.ext (X0.out.sub _))
   have HG0W:=Lib.hid (g0.ext (X0.out.sub _))
   have e0:=cell_lt c0
   have B1:o.length+1≤maxLen:=by unfold maxLen;omega
   have B2:(o.length+1)*48≤140737488355328:=by omega
   clear hv g0 g1 hst hfx hol hnxv hnxl
   have q1:=X.out.at EC.out
   have q3:=X.out.at NC.out.1
   have f3:=cell_lt q1
   have f4:=cell_lt q3
   go_wp2_with fail
   obtain⟨W3,hW3⟩ : ∃z,z=(wo.alloc (.cells #[.slice pxa nxv kxa,.slice pxb nxl kxb] 58)):=⟨_,rfl⟩
   have X3:=Lib.hid (show Ext wo W3 from by rw [hW3];exact((Ext.refl wo).alloc _))
   have s0:W3.cell? ⟨wo.heap.size,0,none⟩=some (.slice pxa nxv kxa):=by rw [hW3];go_simp
   have s1:W3.cell? ⟨wo.heap.size,1,none⟩=some (.slice pxb nxl kxb):=by rw [hW3];go_simp
   replace q1:=X3.out.at q1
   replace q3:=X3.out.at q3
   rw [←hW3]
   have f5:=cell_lt s0
   have f6:=cell_lt q1
   have f7:=cell_lt q3
   clear hW3 c0 c1' e0 f3 f4
   refine wp_tailQ 9 mixedA (by kernel_rfl) _ rfl ?_
   simp only [List.take_succ_cons,List.take_zero,List.drop_succ_cons,List.drop_zero]
   repeat (go_big_quiet_step (fail))
   refine wpQuiet_nil ?_
   go_wp2_with fail
   refine(isTrueE_any _ q.exprs xp _ xv _ (by have h:=HE.out.ext (X0.out.trans (X.out.trans X3.out)).drew.full;rw [HNE.out]at h ⊢;exact h) HEL.out (by have h:=HG0W.out;rw [HNXV.out]at h ⊢;exact h.ext ((on_sub _ _).trans (X.out.trans X3.out).drew.full))).mono ?_
   rintro e w5 ⟨rfl,x5⟩
   obtain⟨tb,htb⟩ : ∃t,trE q.exprs xp xv=t:=⟨_,rfl⟩
   rw [htb]
   have HTB:=Lib.hid htb
   have X5:=Lib.hid (show Ext wo w5 from (X3.out.drew).trans x5)
   replace s0:=(Ext.refl W3).drew.trans x5 |>.at s0
   replace s1:=(Ext.refl W3).drew.trans x5 |>.at s1
   have f8:=cell_lt s0
   clear htb x5 q1 q3 f5 f6 f7
   cases tb
   ·have HO2:=Lib.hid (show o=(A.take (k+1)).filter fun r=>trE q.exprs xp r.vals from by rw [HST.out,if_neg (by rw [HTB.out];decide),List.append_nil])
    go_wp2_with fail
    go_roundg (nA - (k+1))
    case measure=>omega
    case rel=>exact⟨k+1,u,o,by omega,rfl,by go_num,rfl,OW.out.ext X5.out,HO2.out,X.out.trans X5.out⟩
   ·have HO2:=Lib.hid (show o ++ [(⟨xv,xl⟩:Row)]=(A.take (k+1)).filter fun r=>trE q.exprs xp r.vals from by rw [HST.out,if_pos HTB.out])
    have XD:=Lib.hid ((X.out.trans X5.out).alloc (.cells #[.slice pxa nxv kxa,.slice pxb nxl kxb] 58))
    have OA:=Lib.hid (OW.out.ext (X5.out.alloc (.cells #[.slice pxa nxv kxa,.slice pxb nxl kxb] 58)))
    have HNY:=Lib.hid (show Rep.row.holds (on (w5.alloc (.cells #[.slice pxa nxv kxa,.slice pxb nxl kxb] 58)) (avoid T u)) [.slice pxa nxv kxa,.slice pxb nxl kxb] ⟨xv,xl⟩from
     ⟨_,_,rfl,by have h:=HG0W.out.ext (old_allT XD.out OA.out.base);rw [HNXV.out]at h ⊢;exact h,HG1W.out.ext (old_allT XD.out OA.out.base) |> fun h=>by first | exact h | simpa using h⟩)
    have HBB:=Lib.hid (And.intro B1 B2)
    clear B1 B2
    go_wp2_with (at_builtin;go_loud (refine wpList_append_one Rep.row T rfl _ _ 40 rfl W0.heap.size 58 i0 _ 48 Tryz.underlying40 hi hz0 hz1 hz2 rfl (by decide) u o rfl (by exact OA.out) ⟨w5.heap.size,0,none⟩ 1 ⟨xv,xl⟩ [.slice pxa nxv kxa,.slice pxb nxl kxb] rfl (by exact HNY.out) (by exact cells_new w5 [.slice pxa nxv kxa,.slice pxb nxl kxb] _) HBB.out.1 HBB.out.2 (by exact XD.out.size) ?_))
    intro g cap9 w7 own gr _
    have X7:=Lib.hid (show Ext W0 w7 from XD.out.grownNew gr OW.out.base)
    have OW7:=Lib.hid own
    clear own gr
    go_wp2_with fail
    go_roundg (nA - (k+1))
    case measure=>omega
    case rel=>exact⟨k+1,_,o ++ [(⟨xv,xl⟩:Row)],by omega,rfl,by go_num,rfl,OW7.out,HO2.out,X7.out⟩
  ·have hkA:k=nA:=by omega
   have hd : ¬(k:Int)<(nA:Int):=by omega
   have HF:=Lib.hid (show o=A.filter fun r=>trE q.exprs xp r.vals from by have h:=HO.out;rwa [hkA,HNA.out,List.take_length]at h)
   clear hkA
   go_wp2_with fail
   go_ret
   exact⟨_,rfl,by rw [←HF.out];exact OW.out.sliceIn (fun _ _ h=>h) (fun kk hkk=>HTT.out kk (Nat.le_trans HBW.out hkk)),X0.out.trans X.out⟩
set_option maxRecDepth 100000 in
set_option maxHeartbeats 16000000 in
theorem eproject_any (E:Nat) (q:QueryI) (db:List TabI) (cols:List (List Int)) (vr:Value) (done:List (List Row)) (x:NodeI) (ve va:Value) (w:World) (hX:EvA w E q db cols vr done) (hkd:x.kind=3) (he:SliceOf Rep.int w.cell? ve x.exprs) (hg:SliceOf Rep.agg w.cell? va x.aggs)
  (hla:legN done.length x.a=true) (hD : ∀l∈done,l.length≤4096) (hR : ∀l∈done,∀r∈l,fitE r) (hel:q.exprs.length≤1000) (hxl:x.exprs.length≤1000) (ht:TabW w) :
  Calls Tryz.prog 53 #[.pointer (some ⟨E,0,none⟩),nodeV x ve va] w fun e w'=> ∃v,e = .returned v∧SliceOf Rep.row (on w' (avoid (fun b=>b≠E) vr)) v ((done.getD x.a.toNat []).map fun r=>⟨projE q.exprs x.exprs r.vals,r.lin⟩)∧Ext w w':=by
 have mixed:=mixedA
 obtain⟨i0,hi,hz0,hz1,hz2⟩:=info_parts infoRow
 obtain⟨p1,c1,rfl,-⟩:=he.form
 obtain⟨p2,c2,rfl,-⟩:=hg.form
 obtain⟨xk,xa,xb,xp,xt,xe,xg⟩:=x
 dsimp only at he hg hla hkd ⊢
 subst hkd
 obtain⟨n1,hn1⟩ : ∃n,n=xe.length:=⟨_,rfl⟩
 obtain⟨n2,hn2⟩ : ∃n,n=xg.length:=⟨_,rfl⟩
 rw [←hn1]at he ⊢
 rw [←hn2]
 have HN1:=Lib.hid hn1
 have HKE:=Lib.hid he
 obtain⟨ja,rfl,hja⟩:=legN_nat hla
 rw [Int.toNat_natCast]
 obtain⟨T,hT⟩ : ∃T:Nat→Prop,T=avoid (fun b=>b≠E) vr:=⟨_,rfl⟩
 have HTT:=Lib.hid (show ∀k,w.heap.size≤k→T k from by rw [hT];exact hX.newT)
 obtain⟨G,cap,pa,nA,ca,hv1,ga,hnA,hpa,ha⟩:=hX.row hja
 have rr:=hX.rr
 rw [hv1]at rr
 obtain⟨pe,ee,re⟩:=hX.ee
 obtain⟨pE,cE,rfl,-⟩:=re.form
 have hla4:=hD (done.getD ja []) (by rw [List.getD_eq_getElem?_getD,List.getElem?_eq_getElem hja,Option.getD_some];exact List.getElem_mem hja)
 have hfa:=hR (done.getD ja []) (by rw [List.getD_eq_getElem?_getD,List.getElem?_eq_getElem hja,Option.getD_some];exact List.getElem_mem hja)
 rw [←hT]at ha re ⊢
 obtain⟨nd,hnd⟩ : ∃n,n=done.length:=⟨_,rfl⟩
 obtain⟨nE,hnE⟩ : ∃n,n=q.exprs.length:=⟨_,rfl⟩
 rw [←hnd]at rr hja
 rw [←hnE]at ee re
 generalize done.getD ja []=A at *
 have HA:=Lib.hid ha
 have HE:=Lib.hid (re.ext (on_sub _ _))
 have HNE:=Lib.hid hnE
 have HEL:=Lib.hid hel
 have HFA:=Lib.hid hfa
 have HLA:=Lib.hid hla4
 have HPA:=Lib.hid hpa
 have HNA:=Lib.hid hnA
 have HTW:=Lib.hid ht
 have HXL:=Lib.hid hxl
 have hnA5:nA≤4096:=by omega
 have hxA:(ja:Int)<(nd:Int):=by omega
 have e0:=cell_lt rr
 have e1:=cell_lt ga
 clear hX hv1 ha re hla4 hfa hpa hnA hnd hnE hT hla hD hR ht hel he hg hn1 hn2 hxl
 go_enter Tryz.func53,Tryz.ntmps53
 go_wp2_with fail
 go_big_region_o
 go_wp2_with fail
 obtain⟨NB,hNB⟩ : ∃z,z=w.heap.size:=⟨_,rfl⟩
 obtain⟨W0,hW0⟩ : ∃z,z=(w.alloc (.cells #[.int .i64 3,.int .i64 (ja:Nat),.int .i64 xb,.int .i64 xp,.string xt,.slice p1 n1 c1,.slice p2 n2 c2] 64)).drew:=⟨_,rfl⟩
 have X0:=Lib.hid (show Ext w W0 from by rw [hW0];exact((Ext.refl w).alloc _).drew)
 have NC:=Lib.hid (show W0.cell? ⟨NB,3,none⟩=some (.int .i64 xp)∧W0.cell? ⟨NB,5,none⟩=some (.slice p1 n1 c1)from by rw [hW0,hNB];exact⟨by go_simp,by go_simp⟩)
 have EC:=Lib.hid (show W0.cell? ⟨E,1,none⟩=some (.slice pE nE cE)from X0.out.at ee)
 rw [←hW0]
 try rw [←hNB]
 have HBW:=Lib.hid (show w.heap.size≤W0.heap.size from X0.out.size)
 clear hW0 hNB ee rr ga e0 e1
 go_loopg [5,62] nA (fun gk vo vi wr=> ∃(k:Nat) (u:Value) (o:List Row),k≤nA∧gk=nA - k∧vi = .int .i64 k∧u=vo∧Hid (OwnOf Rep.row wr T W0.heap.size 58 u o)∧Hid (o=(A.take k).map fun r=>⟨projE q.exprs xe r.vals,r.lin⟩)∧Hid (Ext W0 wr))
 case atStart=>exact⟨0,_,[],by omega,rfl,rfl,rfl,OwnOf.nil _ _ _ _ _,rfl,Ext.refl W0⟩
 case round =>
  obtain⟨k,u,o,hk,rfl,rfl,rfl,OW,HO,X⟩:=hrel
  obtain⟨wo,rfl⟩ : ∃z,z=wr:=⟨wr,rfl⟩
  by_cases hlt:k<nA
  ·have hkl:k<A.length:=by have:=HNA.out;omega
   have hd:decide ((k:Int)<(nA:Int))=true:=by simp;omega
   obtain⟨ba,oa,rfl⟩:=HPA.out (by omega)
   have hv:=HA.out
   rw [HNA.out]at hv
   obtain⟨ua,ub,c0,c1',g0,g1⟩:=row_at hv k hkl
   obtain⟨pxa,kxa,rfl,-⟩:=g0.form
   obtain⟨pxb,kxb,rfl,-⟩:=g1.form
   have hst:=map_takeR (fun r:Row=>(⟨projE q.exprs xe r.vals,r.lin⟩:Row)) A k hkl
   rw [←HO.out]at hst
   have hol:o.length≤4096:=by
    rw [HO.out]
    rw [List.length_map,List.length_take];omega
   have hfx:=HFA.out A[k] (List.getElem_mem hkl)
   replace c0:=X.out.at (X0.out.at (on_some.1 c0).2)
   replace c1':=X.out.at (X0.out.at (on_some.1 c1').2)
   generalize A[k]=y at c0 c1' g0 g1 hst hfx
   obtain⟨xv,xl⟩:=y
   dsimp only at c0 c1' g0 g1 hst
   have HFX:=Lib.hid hfx
   have HST:=Lib.hid hst
   obtain⟨nxv,hnxv⟩ : ∃z,z=xv.length:=⟨_,rfl⟩
   obtain⟨nxl,hnxl⟩ : ∃z,z=xl.length:=⟨_,rfl⟩
   rw [←hnxv]at c0 g0
   rw [←hnxl]at c1' g1
   have HNXV:=Lib.hid hnxv
   have HG1W:=Lib.hid (g1.ext (X0.out.sub _))
   have HG0W:=Lib.hid (g0.ext (X0.out.sub _))
   have e0:=cell_lt c0
   have B1:o.length+1≤maxLen:=by unfold maxLen;omega
   have B2:(o.length+1)*48≤140737488355328:=by omega
   clear hv g0 g1 hst hfx hol hnxv hnxl
   have q1:=X.out.at EC.out
   have q5:=X.out.at NC.out.2
   go_wp2_with fail
   obtain⟨bx,hbx⟩ : ∃z,z=wo.heap.size:=⟨_,rfl⟩
   obtain⟨W3,hW3⟩ : ∃z,z=(wo.alloc (.cells #[.slice pxa nxv kxa,.slice pxb nxl kxb] 58)):=⟨_,rfl⟩
   have X3:=Lib.hid (show Ext wo W3 from by rw [hW3];exact((Ext.refl wo).alloc _))
   have hS0:Ext W0 W3.drew∧W3.drew.cell? ⟨E,1,none⟩=some (.slice pE nE cE)∧W3.drew.cell? ⟨NB,5,none⟩=some (.slice p1 n1 c1)∧W3.drew.cell? ⟨bx,0,none⟩=some (.slice pxa nxv kxa)∧W3.drew.cell? ⟨bx,1,none⟩=some (.slice pxb nxl kxb):=by
    refine⟨(X.out.trans X3.out).drew,X3.out.drew.at q1,X3.out.drew.at q5,?_,?_⟩ <;> (rw [hW3,hbx];go_simp)
   have HBX:=Lib.hid hbx
   try rw [←hbx]
   try rw [←hW3]
   have HUL:=Lib.hid (show ∀y,u.ownBlock=some y→W0.heap.size≤y∧y<wo.heap.size∧y≠bx from fun y hy=>⟨(OW.out.lt y hy).1,(OW.out.lt y hy).2,by have:=(OW.out.lt y hy).2;have:=HBX.out;omega⟩)
   have HQU:=Lib.hid (show ∀y,u.ownBlock=some y→y≠E∧y≠NB from fun y hy=>by have h1:=(OW.out.lt y hy).1;have h2:=cell_lt EC.out;have h3:=cell_lt NC.out.2;omega)
   clear hW3 hbx c0 c1' e0 q1 q5
   go_region_held3 (fun w'=>Ext W0 w'∧w'.cell? ⟨E,1,none⟩=some (.slice pE nE cE)∧w'.cell? ⟨NB,5,none⟩=some (.slice p1 n1 c1)∧w'.cell? ⟨bx,0,none⟩=some (.slice pxa nxv kxa)∧w'.cell? ⟨bx,1,none⟩=some (.slice pxb nxl kxb))
    (first |with_reducible assumption | with_reducible exact keepE4 (by assumption) x7 | with_reducible exact keepE4 (by assumption) ((Ext.refl _).alloc _) | with_reducible exact K8)
    (first
     |(go_at_call 80;refine(project_gen _ q.exprs _ xe _ xv _ (by have h:=HE.out.ext (X0.out.trans (X.out.trans X3.out)).drew.full;rw [HNE.out]at h ⊢;exact h) HEL.out (by have h:=HKE.out.ext (X0.out.trans (X.out.trans X3.out)).drew.full;rw [HN1.out]at h ⊢;exact h) HXL.out (by have h:=HG0W.out;rw [HNXV.out]at h ⊢;exact h.ext ((on_sub _ _).trans (X.out.trans X3.out).drew.full))).mono ?_;rintro e w7 ⟨v7,rfl,o7,x7⟩;obtain⟨ps,hps⟩ : ∃z,z=projE q.exprs xe xv:=⟨_,rfl⟩;have HPS:=Lib.hid hps;rw [←hps]at o7;have S7:=Lib.hid (o7.fresh flat_val);obtain⟨q6,j6,rfl,-⟩:=o7.slice.form;obtain⟨zn,hzn⟩ : ∃z,z=ps.length:=⟨_,rfl⟩;rw [←hzn]at S7 ⊢;have X7:=Lib.hid (show Ext wo w7 from X3.out.drew.trans x7);have K7:Ext W0 w7∧w7.cell? ⟨E,1,none⟩=some (.slice pE nE cE)∧w7.cell? ⟨NB,5,none⟩=some (.slice p1 n1 c1)∧w7.cell? ⟨bx,0,none⟩=some (.slice pxa nxv kxa)∧w7.cell? ⟨bx,1,none⟩=some (.slice pxb nxl kxb):=keepE4 hS0 x7;clear o7 hps hzn)
     |(refine step_append_one Rep.row T rfl _ _ 40 rfl W0.heap.size 58 i0 _ 48 Tryz.underlying40 hi hz0 hz1 hz2 rfl (by decide) u o rfl (by exact OW.out.ext (X7.out.alloc _)) ⟨_,0,none⟩ 1 ⟨ps,xl⟩ [.slice q6 zn j6,.slice pxb nxl kxb] rfl (by exact⟨_,_,rfl,S7.out.ext ((on_mono w7 fun y _ hy=>⟨fun e=>by(have h1:=(HUL.out y e.symm).2.1;have h2:=X3.out.size;simp at hy;omega),HTT.out y (by(have h1:=HBW.out;have h2:=X.out.size;have h3:=X3.out.size;simp at hy;omega))⟩).trans (((Ext.refl w7).alloc _).sub _)),HG1W.out.ext (old_allT (X.out.trans (X7.out.alloc _)) (fun y hy=>(HUL.out y hy).1))⟩) (by exact cells_new _ [.slice q6 zn j6,.slice pxb nxl kxb] _) B1 B2 (by exact(X.out.trans (X7.out.alloc (.cells [.slice q6 zn j6,.slice pxb nxl kxb].toArray 58))).size) ?_;intro g8 cap8 w9 own9 gr9 hg9;have X7a:=X7.out.alloc (.cells [.slice q6 zn j6,.slice pxb nxl kxb].toArray 58);have K8:Ext W0 w9∧w9.cell? ⟨E,1,none⟩=some (.slice pE nE cE)∧w9.cell? ⟨NB,5,none⟩=some (.slice p1 n1 c1)∧w9.cell? ⟨bx,0,none⟩=some (.slice pxa nxv kxa)∧w9.cell? ⟨bx,1,none⟩=some (.slice pxb nxl kxb):=⟨ext_grown (X.out.trans X7a) gr9 (fun y hy=>(HUL.out y hy).1),cell_grown gr9 (((Ext.refl w7).alloc _).at K7.2.1) (fun y hy=>(HQU.out y hy).1),cell_grown gr9 (((Ext.refl w7).alloc _).at K7.2.2.1) (fun y hy=>(HQU.out y hy).2),cell_grown gr9 (((Ext.refl w7).alloc _).at K7.2.2.2.1) (fun y hy=>(HUL.out y hy).2.2),cell_grown gr9 (((Ext.refl w7).alloc _).at K7.2.2.2.2) (fun y hy=>(HUL.out y hy).2.2)⟩))
   all_goals
    have X9:=Lib.hid (show Ext W0 w9 from ext_grown (X.out.trans X7a) gr9 (fun y hy=>(HUL.out y hy).1))
    have OW9:=Lib.hid own9
    have HO9:=Lib.hid (show o ++ [(⟨ps,xl⟩:Row)]=(A.take (k+1)).map fun r=>⟨projE q.exprs xe r.vals,r.lin⟩from by rw [HST.out,HPS.out])
    clear own9 gr9 hg9 K8 K7 X7a hS0 x7
    go_wp2_with fail
    go_roundg (nA - (k+1))
    case measure=>omega
    case rel=>exact⟨k+1,_,o ++ [(⟨ps,xl⟩:Row)],by omega,rfl,by go_num,rfl,OW9.out,HO9.out,X9.out⟩
  ·have hkA:k=nA:=by omega
   have hd : ¬(k:Int)<(nA:Int):=by omega
   have HF:=Lib.hid (show o=A.map fun r=>⟨projE q.exprs xe r.vals,r.lin⟩from by have h:=HO.out;rwa [hkA,HNA.out,List.take_length]at h)
   clear hkA
   go_wp2_with fail
   go_ret
   exact⟨_,rfl,by rw [←HF.out];exact OW.out.sliceIn (fun _ _ h=>h) (fun kk hkk=>HTT.out kk (Nat.le_trans HBW.out hkk)),X0.out.trans X.out⟩
set_option maxRecDepth 100000 in
set_option maxHeartbeats 16000000 in
theorem edistinct_any (E:Nat) (q:QueryI) (db:List TabI) (cols:List (List Int)) (vr:Value) (done:List (List Row)) (x:NodeI) (ve va:Value) (w:World) (hX:EvA w E q db cols vr done) (hkd:x.kind=9) (he:SliceOf Rep.int w.cell? ve x.exprs) (hg:SliceOf Rep.agg w.cell? va x.aggs)
  (hla:legN done.length x.a=true) (hD : ∀l∈done,l.length≤4096) (hR : ∀l∈done,∀r∈l,fitE r) (hel:q.exprs.length≤1000) (hxl:x.exprs.length≤1000) (ht:TabW w) :
  Calls Tryz.prog 53 #[.pointer (some ⟨E,0,none⟩),nodeV x ve va] w fun e w'=> ∃v,e = .returned v∧SliceOf Rep.row (on w' (avoid (fun b=>b≠E) vr)) v (distP (done.getD x.a.toNat []))∧Ext w w':=by
 have mixed:=mixedA
 obtain⟨i0,hi,hz0,hz1,hz2⟩:=info_parts infoRow
 obtain⟨p1,c1,rfl,-⟩:=he.form
 obtain⟨p2,c2,rfl,-⟩:=hg.form
 obtain⟨xk,xa,xb,xp,xt,xe,xg⟩:=x
 dsimp only at he hg hla hkd ⊢
 subst hkd
 obtain⟨n1,hn1⟩ : ∃n,n=xe.length:=⟨_,rfl⟩
 obtain⟨n2,hn2⟩ : ∃n,n=xg.length:=⟨_,rfl⟩
 rw [←hn1]at he ⊢
 rw [←hn2]
 have HN1:=Lib.hid hn1
 have HKE:=Lib.hid he
 obtain⟨ja,rfl,hja⟩:=legN_nat hla
 rw [Int.toNat_natCast]
 obtain⟨T,hT⟩ : ∃T:Nat→Prop,T=avoid (fun b=>b≠E) vr:=⟨_,rfl⟩
 have HTT:=Lib.hid (show ∀k,w.heap.size≤k→T k from by rw [hT];exact hX.newT)
 obtain⟨G,cap,pa,nA,ca,hv1,ga,hnA,hpa,ha⟩:=hX.row hja
 have rr:=hX.rr
 rw [hv1]at rr
 obtain⟨pe,ee,re⟩:=hX.ee
 obtain⟨pE,cE,rfl,-⟩:=re.form
 have hla4:=hD (done.getD ja []) (by rw [List.getD_eq_getElem?_getD,List.getElem?_eq_getElem hja,Option.getD_some];exact List.getElem_mem hja)
 have hfa:=hR (done.getD ja []) (by rw [List.getD_eq_getElem?_getD,List.getElem?_eq_getElem hja,Option.getD_some];exact List.getElem_mem hja)
 rw [←hT]at ha re ⊢
 obtain⟨nd,hnd⟩ : ∃n,n=done.length:=⟨_,rfl⟩
 obtain⟨nE,hnE⟩ : ∃n,n=q.exprs.length:=⟨_,rfl⟩
 rw [←hnd]at rr hja
 rw [←hnE]at ee re
 generalize done.getD ja []=A at *
 have HA:=Lib.hid ha
 have HE:=Lib.hid (re.ext (on_sub _ _))
 have HNE:=Lib.hid hnE
 have HEL:=Lib.hid hel
 have HFA:=Lib.hid hfa
 have HLA:=Lib.hid hla4
 have HPA:=Lib.hid hpa
 have HNA:=Lib.hid hnA
 have HTW:=Lib.hid ht
 have HXL:=Lib.hid hxl
 have hnA5:nA≤4096:=by omega
 have hxA:(ja:Int)<(nd:Int):=by omega
 have e0:=cell_lt rr
 have e1:=cell_lt ga
 clear hX hv1 ha re hla4 hfa hpa hnA hnd hnE hT hla hD hR ht hel he hg hn1 hn2 hxl
 go_enter Tryz.func53,Tryz.ntmps53
 go_wp2_with fail
 refine wp_tailQ 8 mixedA (by kernel_rfl) _ rfl ?_
 simp only [List.take_succ_cons,List.take_zero,List.drop_succ_cons,List.drop_zero]
 repeat (go_big_quiet_step (fail))
 refine wpQuiet_nil ?_
 go_wp2_with fail
 have X1:=Lib.hid (show Ext w (w.alloc (.cells #[.int .i64 9,.int .i64 (ja:Nat),.int .i64 xb,.int .i64 xp,.string xt,.slice p1 n1 c1,.slice p2 n2 c2] 64)).drew from ((Ext.refl w).alloc _).drew)
 refine(byValues_any T (.slice pa nA ca) A _ (fun k hk=>HTT.out k (Nat.le_trans X1.out.size hk)) (HA.out.ext (X1.out.sub _)) HLA.out (fun r hr=>⟨(HFA.out r hr).1,(HFA.out r hr).2.1⟩) (HTW.out.ext X1.out)).mono ?_
 rintro e w3 ⟨C,rfl,cl,x3⟩
 have X3:=Lib.hid (X1.out.trans x3)
 have HCL:=Lib.hid cl
 obtain⟨ks,hks⟩ : ∃z,z=firsts (A.map Row.vals):=⟨_,rfl⟩
 rw [←hks]at HCL
 have HKS:=Lib.hid hks
 have HNK:=Lib.hid (show ks.length≤4096 from by rw [hks];exact Nat.le_trans (firsts_len _) (by rw [List.length_map];exact HLA.out))
 obtain⟨vv,l1,sv⟩:=HCL.out.c1
 obtain⟨rv,l2,sr⟩:=HCL.out.c2
 obtain⟨pv,cv,rfl,_,_,hpv⟩:=sv.form
 obtain⟨pr,cr,rfl,_,_,hpr⟩:=sr.form
 obtain⟨nK,hnK⟩ : ∃z,z=ks.length:=⟨_,rfl⟩
 have hml:(ks.map (selV A)).length=nK:=by rw [List.length_map,hnK]
 rw [hml]at l2 sr hpr
 rw [←hnK]at l1 sv hpv
 have HSV:=Lib.hid sv
 have HSR:=Lib.hid sr
 have HPV:=Lib.hid hpv
 have HPR:=Lib.hid hpr
 have HNKE:=Lib.hid hnK
 have hnK4:nK≤4096:=by rw [hnK];exact HNK.out
 have HML:=Lib.hid hml
 have L2:=Lib.hid l2
 have e2:=cell_lt l1
 clear hks sv sr hpv hpr hnK hml cl x3 l2 e0 e1 rr ga ee
 go_wp2_with fail
 go_loopg [5,131] nK (fun gk vo vi wr=> ∃(k:Nat) (u:Value) (o:List Row),k≤nK∧gk=nK - k∧vi = .int .i64 k∧u=vo∧Hid (OwnOf Rep.row wr T w3.heap.size 58 u o)∧Hid (o=(ks.take k).map fun kv=>⟨kv,linS (selV A kv)⟩)∧Hid (Ext w3 wr))
 case atStart=>exact⟨0,_,[],by omega,rfl,rfl,rfl,OwnOf.nil _ _ _ _ _,rfl,Ext.refl w3⟩
 case round =>
  clear e2 l1
  obtain⟨k,u,o,hk,rfl,rfl,rfl,OW,HO,X⟩:=hrel
  obtain⟨wo,rfl⟩ : ∃z,z=wr:=⟨wr,rfl⟩
  by_cases hlt:k<nK
  ·have hkl:k<ks.length:=by have:=HNKE.out;omega
   have hd:decide ((k:Int)<(nK:Int))=true:=by simp;omega
   obtain⟨gv,ov,rfl⟩:=HPV.out (by decide) (by omega)
   obtain⟨gr,og,rfl⟩:=HPR.out (by decide) (by omega)
   obtain⟨vk,c0,sk⟩:=slice_atT HSV.out k hkl
   obtain⟨vg,c1',sg⟩:=slice_atT HSR.out k (by rw [HML.out];exact hlt)
   rw [List.getElem_map]at sg
   have hst:=map_takeR (fun kv=>(⟨kv,linS (selV A kv)⟩:Row)) ks k hkl
   rw [←HO.out]at hst
   generalize ks[k]=kv at c0 sk sg hst
   obtain⟨pk,ck,rfl,-⟩:=sk.form
   obtain⟨pg,cg,rfl,-⟩:=sg.form
   obtain⟨S,hS⟩ : ∃z,z=selV A kv:=⟨_,rfl⟩
   rw [←hS]at sg hst c1'
   have hSm : ∀r∈S,r.lin.length≤1000:=fun r hr=>by rw [hS]at hr;exact(HFA.out r (List.mem_filter.1 hr).1).2.2
   have hSl:S.length≤8192:=by rw [hS];exact Nat.le_trans (List.length_filter_le _ _) (by have:=HLA.out;omega)
   obtain⟨nG,hnG⟩ : ∃z,z=S.length:=⟨_,rfl⟩
   obtain⟨nkv,hnkv⟩ : ∃z,z=kv.length:=⟨_,rfl⟩
   rw [←hnkv]at c0 sk
   rw [←hnG]at c1' sg
   have HNKV:=Lib.hid hnkv
   have HNG:=Lib.hid hnG
   have HSK:=Lib.hid sk
   have HSG:=Lib.hid sg
   have HST:=Lib.hid hst
   have HSM:=Lib.hid (And.intro hSl hSm)
   have hol:o.length≤4096:=by rw [HO.out,List.length_map,List.length_take];omega
   replace c0:=X.out.at c0
   replace c1':=X.out.at c1'
   have l2:=X.out.at L2.out
   have e2:=cell_lt c0
   have e3:=cell_lt c1'
   have e4:=cell_lt l2
   have B1:o.length+1≤maxLen:=by unfold maxLen;omega
   have B2:(o.length+1)*48≤140737488355328:=by omega
   have HBB:=Lib.hid (And.intro B1 B2)
   clear sk sg hst hnG hkl hS hSm hSl hol B1 B2 hnkv
   go_wp2_with fail
   refine(lineage_any _ S _ (by have h:=HSG.out;rw [HNG.out]at h ⊢;exact h.ext ((on_sub _ _).trans X.out.full)) HSM.out.1 HSM.out.2).mono ?_
   rintro e w4 ⟨v4,rfl,s4,x4⟩
   obtain⟨ls,hls⟩ : ∃z,z=linS S:=⟨_,rfl⟩
   rw [←hls]at s4 HST
   obtain⟨p4,q4,rfl,-⟩:=s4.form
   obtain⟨nl,hnl⟩ : ∃z,z=ls.length:=⟨_,rfl⟩
   rw [←hnl]at s4 ⊢
   have S4:=Lib.hid s4
   have X4:=Lib.hid x4
   have XD:=Lib.hid ((X.out.trans x4).alloc (.cells #[.slice pk nkv ck,.slice p4 nl q4] 58))
   have OA:=Lib.hid (OW.out.ext (X4.out.alloc (.cells #[.slice pk nkv ck,.slice p4 nl q4] 58)))
   have HNY:=Lib.hid (show Rep.row.holds (on (w4.alloc (.cells #[.slice pk nkv ck,.slice p4 nl q4] 58)) (avoid T u)) [.slice pk nkv ck,.slice p4 nl q4] ⟨kv,ls⟩from
    ⟨_,_,rfl,by have h:=HSK.out.ext (old_allT XD.out OA.out.base);rw [HNKV.out]at h ⊢;exact h,by
     have h:=S4.out.ext ((((Ext.refl w4).alloc (.cells #[.slice pk nkv ck,.slice p4 nl q4] 58)).sub _).trans (sub_newT (fun kk hkk=>HTT.out kk (Nat.le_trans (Nat.le_trans X3.out.size X.out.size) hkk)) fun kk hkk=>(OW.out.lt kk hkk).2))
     first |exact h | (rw [hnl]at h ⊢;exact h)⟩)
   clear s4 x4 hls hnl c0 c1' l2 e2 e3 e4
   go_wp2_with (at_builtin;go_loud (refine wpList_append_one Rep.row T rfl _ _ 40 rfl w3.heap.size 58 i0 _ 48 Tryz.underlying40 hi hz0 hz1 hz2 rfl (by decide) u o rfl (by exact OA.out) ⟨w4.heap.size,0,none⟩ 1 ⟨kv,ls⟩ [.slice pk nkv ck,.slice p4 nl q4] rfl (by exact HNY.out) (by exact cells_new w4 [.slice pk nkv ck,.slice p4 nl q4] _) HBB.out.1 HBB.out.2 (by exact XD.out.size) ?_))
   intro g cap9 w7 own gr7 _
   have X7:=Lib.hid (show Ext w3 w7 from XD.out.grownNew gr7 OW.out.base)
   have OW7:=Lib.hid own
   clear own gr7
   go_wp2_with fail
   go_roundg (nK - (k+1))
   case measure=>omega
   case rel=>exact⟨k+1,_,o ++ [(⟨kv,ls⟩:Row)],by omega,rfl,by go_num,rfl,OW7.out,HST.out.symm,X7.out⟩
  ·have hkN:k=nK:=by omega
   have hd : ¬(k:Int)<(nK:Int):=by omega
   have HF:=Lib.hid (show o=distP A from by
    have h:=HO.out
    rw [hkN,HNKE.out,List.take_length,HKS.out]at h
    exact h)
   clear hkN
   go_wp2_with fail
   go_ret
   exact⟨_,rfl,by rw [←HF.out];exact OW.out.sliceIn (fun _ _ h=>h) (fun kk hkk=>HTT.out kk (Nat.le_trans X3.out.size hkk)),X3.out.trans X.out⟩
set_option maxRecDepth 100000 in
set_option maxHeartbeats 16000000 in
theorem eunion_any (E:Nat) (q:QueryI) (db:List TabI) (cols:List (List Int)) (vr:Value) (done:List (List Row)) (x:NodeI) (ve va:Value) (w:World) (hX:EvA w E q db cols vr done) (hkd:x.kind=6) (he:SliceOf Rep.int w.cell? ve x.exprs) (hg:SliceOf Rep.agg w.cell? va x.aggs)
  (hla:legN done.length x.a=true) (hlb:legN done.length x.b=true) (hD : ∀l∈done,l.length≤4096) (hR : ∀l∈done,∀r∈l,fitE r) (hel:q.exprs.length≤1000) (hxl:x.exprs.length≤1000) (ht:TabW w) :
  Calls Tryz.prog 53 #[.pointer (some ⟨E,0,none⟩),nodeV x ve va] w fun e w'=> ∃v,e = .returned v∧SliceOf Rep.row (on w' (avoid (fun b=>b≠E) vr)) v (done.getD x.a.toNat []++done.getD x.b.toNat [])∧Ext w w':=by
 have mixed:=mixedA
 obtain⟨i0,hi,hz0,hz1,hz2⟩:=info_parts infoRow
 obtain⟨p1,c1,rfl,-⟩:=he.form
 obtain⟨p2,c2,rfl,-⟩:=hg.form
 obtain⟨xk,xa,xb,xp,xt,xe,xg⟩:=x
 dsimp only at he hg hla hlb hkd ⊢
 subst hkd
 obtain⟨n1,hn1⟩ : ∃n,n=xe.length:=⟨_,rfl⟩
 obtain⟨n2,hn2⟩ : ∃n,n=xg.length:=⟨_,rfl⟩
 rw [←hn1]at he ⊢
 rw [←hn2]
 have HN1:=Lib.hid hn1
 have HKE:=Lib.hid he
 obtain⟨ja,rfl,hja⟩:=legN_nat hla
 obtain⟨jb,rfl,hjb⟩:=legN_nat hlb
 rw [Int.toNat_natCast,Int.toNat_natCast]
 obtain⟨T,hT⟩ : ∃T:Nat→Prop,T=avoid (fun b=>b≠E) vr:=⟨_,rfl⟩
 have HTT:=Lib.hid (show ∀k,w.heap.size≤k→T k from by rw [hT];exact hX.newT)
 obtain⟨G,cap,pa,nA,ca,hv1,ga,hnA,hpa,ha⟩:=hX.row hja
 obtain⟨G',cap',pb,nB,cb,hv2,gb,hnB,hpb,hb⟩:=hX.row hjb
 obtain⟨rfl,rfl⟩:=same_row (hv1.symm.trans hv2)
 have hlb4:=hD (done.getD jb []) (by rw [List.getD_eq_getElem?_getD,List.getElem?_eq_getElem hjb,Option.getD_some];exact List.getElem_mem hjb)
 have rr:=hX.rr
 rw [hv1]at rr
 obtain⟨pe,ee,re⟩:=hX.ee
 obtain⟨pE,cE,rfl,-⟩:=re.form
 have hla4:=hD (done.getD ja []) (by rw [List.getD_eq_getElem?_getD,List.getElem?_eq_getElem hja,Option.getD_some];exact List.getElem_mem hja)
 have hfa:=hR (done.getD ja []) (by rw [List.getD_eq_getElem?_getD,List.getElem?_eq_getElem hja,Option.getD_some];exact List.getElem_mem hja)
 rw [←hT]at ha hb re ⊢
 obtain⟨nd,hnd⟩ : ∃n,n=done.length:=⟨_,rfl⟩
 obtain⟨nE,hnE⟩ : ∃n,n=q.exprs.length:=⟨_,rfl⟩
 rw [←hnd]at rr hja hjb
 rw [←hnE]at ee re
 generalize done.getD ja []=A at *
 generalize done.getD jb []=B at *
 have HB:=Lib.hid hb
 have HLB:=Lib.hid hlb4
 have HNB:=Lib.hid hnB
 have hnB5:nB≤4096:=by omega
 have hxB:(jb:Int)<(nd:Int):=by omega
 have HA:=Lib.hid ha
 have HE:=Lib.hid (re.ext (on_sub _ _))
 have HNE:=Lib.hid hnE
 have HEL:=Lib.hid hel
 have HFA:=Lib.hid hfa
 have HLA:=Lib.hid hla4
 have HPA:=Lib.hid hpa
 have HNA:=Lib.hid hnA
 have HTW:=Lib.hid ht
 have HXL:=Lib.hid hxl
 have hnA5:nA≤4096:=by omega
 have hxA:(ja:Int)<(nd:Int):=by omega
 have e0:=cell_lt rr
 have e1:=cell_lt ga
 have e2:=cell_lt gb
 clear hX hv1 hv2 hb hlb4 hpb hnB hlb ha re hla4 hfa hpa hnA hnd hnE hT hla hD hR ht hel he hg hn1 hn2 hxl
 go_enter Tryz.func53,Tryz.ntmps53
 go_wp2_with fail
 obtain⟨NB,hNB⟩ : ∃z,z=w.heap.size:=⟨_,rfl⟩
 obtain⟨W1,hW1⟩ : ∃z,z=w.alloc (.cells #[.int .i64 6,.int .i64 (ja:Nat),.int .i64 (jb:Nat),.int .i64 xp,.string xt,.slice p1 n1 c1,.slice p2 n2 c2] 64):=⟨_,rfl⟩
 have X1:=Lib.hid (show Ext w W1 from by rw [hW1];exact(Ext.refl w).alloc _)
 have hS0:Ext w W1.drew∧W1.drew.cell? ⟨E,4,none⟩=some (.slice (some ⟨G,0,none⟩) nd cap)∧W1.drew.cell? ⟨NB,1,none⟩=some (.int .i64 (ja:Nat))∧W1.drew.cell? ⟨NB,2,none⟩=some (.int .i64 (jb:Nat))∧W1.drew.cell? ⟨G,ja,none⟩=some (.slice pa nA ca)∧W1.drew.cell? ⟨G,jb,none⟩=some (.slice pb nB cb):=by
  refine⟨X1.out.drew,X1.out.drew.at rr,?_,?_,X1.out.drew.at ga,X1.out.drew.at gb⟩ <;> (rw [hW1,hNB];go_simp)
 rw [←hW1]
 try rw [←hNB]
 have HLIT:=Lib.hid (show SliceOf (Rep.slice Rep.row) (on (W1.alloc (.cells #[.slice pa nA ca,.slice pb nB cb] 40)).drew T) (.slice (some ⟨W1.heap.size,0,none⟩) 2 2) [A,B]from
  (lit2R (T:=40) (fun kk hkk=>HTT.out kk (Nat.le_trans X1.out.size hkk)) (HA.out.ext (X1.out.sub _)) (HB.out.ext (X1.out.sub _))).ext ((Ext.refl _).drew.sub _))
 have HFL:=Lib.hid (show ([A,B]:List (List Row)).flatten=A++B from by simp)
 clear hW1 hNB rr ga gb ee e0 e1 e2
 go_region_held3 (fun w'=>Ext w w'∧w'.cell? ⟨E,4,none⟩=some (.slice (some ⟨G,0,none⟩) nd cap)∧w'.cell? ⟨NB,1,none⟩=some (.int .i64 (ja:Nat))∧w'.cell? ⟨NB,2,none⟩=some (.int .i64 (jb:Nat))∧w'.cell? ⟨G,ja,none⟩=some (.slice pa nA ca)∧w'.cell? ⟨G,jb,none⟩=some (.slice pb nB cb))
  (first |with_reducible assumption | with_reducible exact keepE5 (by assumption) x7 | exact keepE5 hS0 ((Ext.refl W1).alloc _).drew.ofDrew | with_reducible exact keepE5 (by assumption) ((Ext.refl _).alloc _))
  (first
   |(go_at_call 96;refine(concat_row T _ [A,B] _ HLIT.out (by rw [HFL.out,List.length_append];have h1:=HLA.out;have h2:=HLB.out;omega)).mono ?_;rintro e w7 ⟨v7,rfl,o7,x7⟩;rw [HFL.out]at o7;have X7:=Lib.hid (show Ext W1 w7 from ((Ext.refl W1).alloc _).drew.trans x7))
   |fail)
 all_goals
  have S7:=Lib.hid (show SliceOf Rep.row (on w7 T) v7 (A++B)from o7.sliceIn (fun _ _ h=>h) (fun kk hkk=>HTT.out kk (Nat.le_trans (Nat.le_trans X1.out.size ((Ext.refl W1).alloc (.cells #[.slice pa nA ca,.slice pb nB cb] 40)).drew.size) hkk)))
  clear hS0 o7 x7
  go_wp2_with fail
  go_ret
  exact⟨_,rfl,S7.out,X1.out.trans X7.out⟩
set_option maxRecDepth 100000 in
set_option maxHeartbeats 16000000 in
theorem enode_any (E:Nat) (q:QueryI) (db:List TabI) (cols:List (List Int)) (vr:Value) (done:List (List Row)) (x:NodeI) (ve va:Value) (w:World) (hX:EvA w E q db cols vr done) (he:SliceOf Rep.int w.cell? ve x.exprs) (hg:SliceOf Rep.agg w.cell? va x.aggs)
  (hkd:1≤x.kind∧x.kind≤10) (hla:x.kind≠1→legN done.length x.a=true) (hlb:binK x.kind=true→legN done.length x.b=true) (hgk:x.kind=10→ ∀g∈x.aggs,1≤g.kind∧g.kind≤4) (hcl:cols.length≤40∧done.length≤cols.length)
  (hD : ∀l∈done,l.length≤4096) (hR : ∀l∈done,∀r∈l,fitE r) (hC : ∀l∈cols,l.length≤64) (hel:q.exprs.length≤1000) (hcs : ∀e∈q.exprs,e.c.s.size≤1048576) (hxl:x.exprs.length≤1000) (hgl:x.aggs.length≤1000) (ht:TabW w) (hdl:db.length≤1000) :
  Calls Tryz.prog 53 #[.pointer (some ⟨E,0,none⟩),nodeV x ve va] w fun e w'=> ∃v l,e = .returned v∧SliceOf Rep.row (on w' (avoid (fun b=>b≠E) vr)) v l∧WholeOr 4096 (nodeP q.exprs db cols done x) l∧Ext w w':=by
 by_cases k2:x.kind=2
 ·refine(eselect_any E q db cols vr done x ve va w hX k2 he hg (hla (by omega)) hD hR hel hxl ht).mono ?_
  rintro e w' ⟨v,h1,h2,h3⟩
  refine⟨v,_,h1,h2,?_,h3⟩
  unfold nodeP
  rw [if_neg (by omega),if_pos k2]
  exact whole_self _
 by_cases k3:x.kind=3
 ·refine(eproject_any E q db cols vr done x ve va w hX k3 he hg (hla (by omega)) hD hR hel hxl ht).mono ?_
  rintro e w' ⟨v,h1,h2,h3⟩
  refine⟨v,_,h1,h2,?_,h3⟩
  unfold nodeP
  rw [if_neg (by omega),if_neg k2,if_pos k3]
  exact whole_self _
 by_cases k9:x.kind=9
 ·refine(edistinct_any E q db cols vr done x ve va w hX k9 he hg (hla (by omega)) hD hR hel hxl ht).mono ?_
  rintro e w' ⟨v,h1,h2,h3⟩
  refine⟨v,_,h1,h2,?_,h3⟩
  unfold nodeP
  rw [if_neg (by omega),if_neg k2,if_neg k3,if_neg (by omega),if_neg (by omega),if_neg (by omega),if_neg (by omega),if_pos k9]
  exact whole_self _
 by_cases k6:x.kind=6
 ·refine(eunion_any E q db cols vr done x ve va w hX k6 he hg (hla (by omega)) (hlb (by unfold binK;rw [k6];rfl)) hD hR hel hxl ht).mono ?_
  rintro e w' ⟨v,h1,h2,h3⟩
  refine⟨v,_,h1,h2,?_,h3⟩
  unfold nodeP
  rw [if_neg (by omega),if_neg k2,if_neg k3,if_neg (by omega),if_neg (by omega),if_pos k6]
  exact whole_self _
 obtain⟨p1,c1,rfl,-⟩:=he.form
 obtain⟨p2,c2,rfl,-⟩:=hg.form
 obtain⟨xk,xa,xb,xp,xt,xe,xg⟩:=x
 dsimp only at *
 have HX:=Lib.hid hX
 have HSE:=Lib.hid he
 have HSG:=Lib.hid hg
 have HLA:=Lib.hid hla
 have HLB:=Lib.hid hlb
 have HGK:=Lib.hid hgk
 have HH:=Lib.hid (And.intro hcl (And.intro hD (And.intro hR (And.intro hC (And.intro hel (And.intro hcs (And.intro hxl (And.intro hgl (And.intro ht hdl)))))))))
 obtain⟨n1,hn1⟩ : ∃n,n=xe.length:=⟨_,rfl⟩
 obtain⟨n2,hn2⟩ : ∃n,n=xg.length:=⟨_,rfl⟩
 have HN1:=Lib.hid hn1
 have HN2:=Lib.hid hn2
 rw [←hn1,←hn2]
 have xa1:=Lib.hid ((Ext.refl w).alloc (.cells #[.int .i64 xk,.int .i64 xa,.int .i64 xb,.int .i64 xp,.string xt,.slice p1 n1 c1,.slice p2 n2 c2] 64))
 have SE1:=Lib.hid (show SliceOf Rep.int (w.alloc (.cells #[.int .i64 xk,.int .i64 xa,.int .i64 xb,.int .i64 xp,.string xt,.slice p1 n1 c1,.slice p2 n2 c2] 64)).cell? (.slice p1 xe.length c1) xe from HSE.out.ext xa1.out.full)
 have SG1:=Lib.hid (show SliceOf Rep.agg (w.alloc (.cells #[.int .i64 xk,.int .i64 xa,.int .i64 xb,.int .i64 xp,.string xt,.slice p1 n1 c1,.slice p2 n2 c2] 64)).cell? (.slice p2 xg.length c2) xg from HSG.out.ext xa1.out.full)
 clear hX he hg hla hlb hgk hcl hD hR hC hel hcs hxl hgl ht hdl hn1 hn2
 by_cases k1:xk=1
 ·subst k1
  clear hkd k2 k3 k6 k9
  go_enter Tryz.func53,Tryz.ntmps53
  go_wp2_with fail
  refine(escan_any E q db cols vr done xt _ (HX.out.ext xa1.out) (by have:=HH.out.2.2.2.2.2.2.2.2.2;omega)).mono ?_
  rintro e w2 ⟨v2,rfl,s2,x2⟩
  have S2:=Lib.hid s2
  have X2:=Lib.hid (xa1.out.trans x2)
  clear s2 x2
  go_wp2_with fail
  go_ret
  refine⟨_,_,rfl,S2.out,?_,X2.out⟩
  unfold nodeP
  rw [if_pos rfl]
  exact whole_self _
 by_cases k10:xk=10
 ·subst k10
  clear hkd k2 k3 k6 k9 k1
  go_enter Tryz.func53,Tryz.ntmps53
  go_wp2_with fail
  refine(by have h:=(egroup_any E q db cols vr done ⟨10,xa,xb,xp,xt,xe,xg⟩ (.slice p1 xe.length c1) (.slice p2 xg.length c2) _ (HX.out.ext xa1.out) SE1.out SG1.out (HLA.out (by decide)) HH.out.2.1 HH.out.2.2.1 HH.out.2.2.2.2.1 HH.out.2.2.2.2.2.1 HH.out.2.2.2.2.2.2.1 HH.out.2.2.2.2.2.2.2.1 (HGK.out (by first | trivial | rfl)) (HH.out.2.2.2.2.2.2.2.2.1.ext xa1.out));unfold nodeV at h;rw [←HN1.out,←HN2.out]at h;exact h:Calls _ _ _ _ _).mono ?_
  rintro e w2 ⟨v2,rfl,s2,x2⟩
  have S2:=Lib.hid s2
  have X2:=Lib.hid (xa1.out.trans x2)
  clear s2 x2
  go_wp2_with fail
  go_ret
  refine⟨_,_,rfl,S2.out,?_,X2.out⟩
  unfold nodeP
  rw [if_neg (by dsimp only;omega),if_neg (by dsimp only;omega),if_neg (by dsimp only;omega),if_neg (by dsimp only;omega),if_neg (by dsimp only;omega),if_neg (by dsimp only;omega),if_neg (by dsimp only;omega),if_neg (by dsimp only;omega)]
  exact whole_self _
 by_cases k7:xk=7
 ·subst k7
  clear hkd k2 k3 k6 k9 k1 k10
  go_enter Tryz.func53,Tryz.ntmps53
  go_wp2_with fail
  refine(by have h:=(esetop_any E q db cols vr done ⟨7,xa,xb,xp,xt,xe,xg⟩ (.slice p1 xe.length c1) (.slice p2 xg.length c2) _ (HX.out.ext xa1.out) (by first | exact .inl rfl | exact .inr rfl) SE1.out SG1.out (HLA.out (by decide)) (HLB.out rfl) HH.out.2.1 HH.out.2.2.1 (HH.out.2.2.2.2.2.2.2.2.1.ext xa1.out));unfold nodeV at h;rw [←HN1.out,←HN2.out]at h;exact h:Calls _ _ _ _ _).mono ?_
  rintro e w2 ⟨v2,rfl,s2,x2⟩
  have S2:=Lib.hid s2
  have X2:=Lib.hid (xa1.out.trans x2)
  clear s2 x2
  go_wp2_with fail
  go_ret
  refine⟨_,_,rfl,S2.out,?_,X2.out⟩
  unfold nodeP
  rw [if_neg (by dsimp only;omega),if_neg (by dsimp only;omega),if_neg (by dsimp only;omega),if_neg (by dsimp only;omega),if_neg (by dsimp only;omega),if_neg (by dsimp only;omega),if_pos (by dsimp only;omega)]
  exact whole_self _
 by_cases k8:xk=8
 ·subst k8
  clear hkd k2 k3 k6 k9 k1 k10 k7
  go_enter Tryz.func53,Tryz.ntmps53
  go_wp2_with fail
  refine(by have h:=(esetop_any E q db cols vr done ⟨8,xa,xb,xp,xt,xe,xg⟩ (.slice p1 xe.length c1) (.slice p2 xg.length c2) _ (HX.out.ext xa1.out) (by first | exact .inl rfl | exact .inr rfl) SE1.out SG1.out (HLA.out (by decide)) (HLB.out rfl) HH.out.2.1 HH.out.2.2.1 (HH.out.2.2.2.2.2.2.2.2.1.ext xa1.out));unfold nodeV at h;rw [←HN1.out,←HN2.out]at h;exact h:Calls _ _ _ _ _).mono ?_
  rintro e w2 ⟨v2,rfl,s2,x2⟩
  have S2:=Lib.hid s2
  have X2:=Lib.hid (xa1.out.trans x2)
  clear s2 x2
  go_wp2_with fail
  go_ret
  refine⟨_,_,rfl,S2.out,?_,X2.out⟩
  unfold nodeP
  rw [if_neg (by dsimp only;omega),if_neg (by dsimp only;omega),if_neg (by dsimp only;omega),if_neg (by dsimp only;omega),if_neg (by dsimp only;omega),if_neg (by dsimp only;omega),if_pos (by dsimp only;omega)]
  exact whole_self _
 by_cases k4:xk=4
 ·subst k4
  clear hkd k2 k3 k6 k9 k1 k10 k7 k8
  go_enter Tryz.func53,Tryz.ntmps53
  go_wp2_with fail
  refine(by have h:=(ejoin_any E q db cols vr done ⟨4,xa,xb,xp,xt,xe,xg⟩ (.slice p1 xe.length c1) (.slice p2 xg.length c2) _ (HX.out.ext xa1.out) (by first | exact .inl rfl | exact .inr rfl) SE1.out SG1.out (HLA.out (by decide)) (HLB.out rfl) HH.out.1 HH.out.2.1 HH.out.2.2.1 HH.out.2.2.2.1 HH.out.2.2.2.2.1);unfold nodeV at h;rw [←HN1.out,←HN2.out]at h;exact h:Calls _ _ _ _ _).mono ?_
  rintro e w2 ⟨v2,l2,rfl,s2,hw2,x2⟩
  have S2:=Lib.hid s2
  have W2:=Lib.hid hw2
  have X2:=Lib.hid (xa1.out.trans x2)
  clear s2 x2 hw2
  go_wp2_with fail
  go_ret
  refine⟨_,_,rfl,S2.out,?_,X2.out⟩
  unfold nodeP
  rw [if_neg (by dsimp only;omega),if_neg (by dsimp only;omega),if_neg (by dsimp only;omega),if_pos rfl]
  have h:=W2.out
  try dsimp only at h
  rw [if_neg (by decide),refJ_inner]at h
  exact h
 by_cases k5:xk=5
 ·subst k5
  clear hkd k2 k3 k6 k9 k1 k10 k7 k8 k4
  go_enter Tryz.func53,Tryz.ntmps53
  go_wp2_with fail
  refine(by have h:=(ejoin_any E q db cols vr done ⟨5,xa,xb,xp,xt,xe,xg⟩ (.slice p1 xe.length c1) (.slice p2 xg.length c2) _ (HX.out.ext xa1.out) (by first | exact .inl rfl | exact .inr rfl) SE1.out SG1.out (HLA.out (by decide)) (HLB.out rfl) HH.out.1 HH.out.2.1 HH.out.2.2.1 HH.out.2.2.2.1 HH.out.2.2.2.2.1);unfold nodeV at h;rw [←HN1.out,←HN2.out]at h;exact h:Calls _ _ _ _ _).mono ?_
  rintro e w2 ⟨v2,l2,rfl,s2,hw2,x2⟩
  have S2:=Lib.hid s2
  have W2:=Lib.hid hw2
  have X2:=Lib.hid (xa1.out.trans x2)
  clear s2 x2 hw2
  go_wp2_with fail
  go_ret
  refine⟨_,_,rfl,S2.out,?_,X2.out⟩
  unfold nodeP
  rw [if_neg (by dsimp only;omega),if_neg (by dsimp only;omega),if_neg (by dsimp only;omega),if_neg (by dsimp only;omega),if_pos rfl]
  have h:=W2.out
  try dsimp only at h
  rw [if_pos (by first | trivial | rfl),refJ_left]at h
  exact h
 exfalso
 omega
end Go.Proofs.YtombmdaohcjokaaGreatDoor
