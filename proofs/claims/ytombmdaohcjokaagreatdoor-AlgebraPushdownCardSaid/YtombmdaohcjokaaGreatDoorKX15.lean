/- joined texts of a proof: EvaF, PairE, SubW, MatW, InnW, LeftW, EvaD -/
import Derived.Test.YtombmdaohcjokaaGreatDoorKX12
import Derived.Test.YtombmdaohcjokaaGreatDoorKX06
import Derived.Test.YtombmdaohcjokaaGreatDoorKX11
import Derived.Test.YtombmdaohcjokaaGreatDoorKX09
import Derived.Test.YtombmdaohcjokaaGreatDoorKX04
import Derived.Test.YtombmdaohcjokaaGreatDoorKX10
namespace Go.Proofs.YtombmdaohcjokaaGreatDoor
open Go.RowKit Go.Maps Go.Deep
theorem lit2R {wz:World} {R:Nat→Prop} {T:TypeId} {pa pb:Option Addr} {ca cb na nb:Nat} {xs ys:List Row} (hR : ∀k,wz.heap.size≤k→R k) (ha:SliceOf Rep.row (on wz R) (.slice pa na ca) xs) (hb:SliceOf Rep.row (on wz R) (.slice pb nb cb) ys) :
  SliceOf (Rep.slice Rep.row) (on (wz.alloc (.cells #[.slice pa na ca,.slice pb nb cb] T)) R) (.slice (some ⟨wz.heap.size,0,none⟩) 2 2) [xs,ys]:=by
 refine⟨[[.slice pa na ca],[.slice pb nb cb]],⟨⟨_,rfl,ha.ext (((Ext.refl wz).alloc _).sub _)⟩,⟨_,rfl,hb.ext (((Ext.refl wz).alloc _).sub _)⟩,trivial⟩,.inr ⟨_,2,rfl,by simp,by simp [maxLen],.inr ⟨_,0,rfl,fun j u hj=>on_some.2 ⟨hR _ (Nat.le_refl _),?_⟩⟩⟩⟩
 rw [World.cell?_alloc_at _ _ _ _ rfl]
 simpa using hj
theorem lookupOk_run {P:Program} {w:World} {k e t:TypeId} {S:Value→Prop} {b n:Nat} {mp:Lit→Option Value} (h:MapV w P k S b n mp) (K:Go.Maps.Keyed P k) (ht:P.underlying t=some (.map k e)) {z:Value} (hz:(zeroValue e).run P w = .ok z w) (hS:S z) {key:Value} {kl:Lit} (hkey:keyOf P k key=some kl) (hlit:WideAt.IsKeyLit kl) {c:Value} {ok:Bool} (hc:(mp kl).getD z=c) (hok:(mp kl).isSome=ok) :
  (Instr.lookup t (.map (some b)) key true).run P w = .ok (.tuple #[c,.bool ok]) w:=by
 obtain⟨D,h1,h2⟩:=h
 obtain⟨v,ps,hrun,hv⟩:=h1.look_ok K ht hz (rawR_mk hS) hkey
 obtain⟨_,hv⟩:=rawR_inv hv
 injection hv with hv _
 rw [h2.2 kl hlit]at hv
 rw [hrun,h2.has hlit,hok]
 have:v=c:=by
  rw [←hc]
  cases hmk:mp kl with
  |none=>rw [hmk]at hv;injection hv with hv;exact hv.symm
  |some u=>rw [hmk]at hv;injection hv with hv;exact hv.symm
 rw [this]
theorem setRow_len (kind:Int) (A B:List Row) (kv:List Val):(setRow kind A B kv).length≤A.length:=by
 unfold setRow cntS
 rw [List.length_replicate]
 have:(selV A kv).length≤A.length:=List.length_filter_le _ _
 split <;> omega
theorem flatSet_len (kind:Int) (A B:List Row) (ks:List (List Val)):(ks.flatMap (setRow kind A B)).length≤ks.length*A.length:=by
 induction ks with
 |nil=>simp
 |cons k ks ih =>
  rw [List.flatMap_cons,List.length_append,List.length_cons,Nat.succ_mul]
  have:=setRow_len kind A B k
  omega
theorem flatMap_take {α β:Type} (f:α→List β) (l:List α) (k:Nat) (h:k<l.length):(l.take (k+1)).flatMap f=(l.take k).flatMap f++f l[k]:=by
 rw [List.take_succ_eq_append_getElem h,List.flatMap_append,List.flatMap_cons,List.flatMap_nil,List.append_nil]
theorem selV_none {B:List Row} {kv:List Val} (h:kv∉firsts (B.map Row.vals)):selV B kv = []:=by
 unfold selV
 rw [List.filter_eq_nil_iff]
 intro r hr e
 exact h (((firsts_law _).2 _).2 (List.mem_map.2 ⟨r,hr,by simpa using e⟩))
set_option maxRecDepth 100000 in
set_option maxHeartbeats 16000000 in
theorem esetop_any (E:Nat) (q:QueryI) (db:List TabI) (cols:List (List Int)) (vr:Value) (done:List (List Row)) (x:NodeI) (ve va:Value) (w:World) (hX:EvA w E q db cols vr done) (hkd:x.kind=7∨x.kind=8) (he:SliceOf Rep.int w.cell? ve x.exprs) (hg:SliceOf Rep.agg w.cell? va x.aggs)
  (hla:legN done.length x.a=true) (hlb:legN done.length x.b=true) (hD : ∀l∈done,l.length≤4096) (hR : ∀l∈done,∀r∈l,fitE r) (ht:TabW w) :
  Calls Tryz.prog 97 #[.pointer (some ⟨E,0,none⟩),nodeV x ve va] w fun e w'=> ∃v,e = .returned v∧SliceOf Rep.row (on w' (avoid (fun b=>b≠E) vr)) v (setP x.kind (done.getD x.a.toNat []) (done.getD x.b.toNat []))∧Ext w w':=by
 have mixed:=mixedA
 obtain⟨i0,hi,hz0,hz1,hz2⟩:=info_parts infoRow
 obtain⟨p1,c1,rfl,-⟩:=he.form
 obtain⟨p2,c2,rfl,-⟩:=hg.form
 obtain⟨xk,xa,xb,xp,xt,xe,xg⟩:=x
 dsimp only at he hg hla hlb hkd ⊢
 obtain⟨n1,hn1⟩ : ∃n,n=xe.length:=⟨_,rfl⟩
 obtain⟨n2,hn2⟩ : ∃n,n=xg.length:=⟨_,rfl⟩
 rw [←hn1,←hn2]
 clear hn1 hn2 he hg
 obtain⟨ja,rfl,hja⟩:=legN_nat hla
 obtain⟨jb,rfl,hjb⟩:=legN_nat hlb
 rw [Int.toNat_natCast,Int.toNat_natCast]
 obtain⟨T,hT⟩ : ∃T:Nat→Prop,T=avoid (fun b=>b≠E) vr:=⟨_,rfl⟩
 have HTT:=Lib.hid (show ∀k,w.heap.size≤k→T k from by rw [hT];exact hX.newT)
 obtain⟨G,cap,pa,nA,ca,hv1,ga,hnA,hpa,ha⟩:=hX.row hja
 obtain⟨G',cap',pb,nB,cb,hv2,gb,hnB,hpb,hb⟩:=hX.row hjb
 obtain⟨rfl,rfl⟩:=same_row (hv1.symm.trans hv2)
 have rr:=hX.rr
 rw [hv1]at rr
 have hla4:=hD (done.getD ja []) (by rw [List.getD_eq_getElem?_getD,List.getElem?_eq_getElem hja,Option.getD_some];exact List.getElem_mem hja)
 have hlb4:=hD (done.getD jb []) (by rw [List.getD_eq_getElem?_getD,List.getElem?_eq_getElem hjb,Option.getD_some];exact List.getElem_mem hjb)
 have hfa:=hR (done.getD ja []) (by rw [List.getD_eq_getElem?_getD,List.getElem?_eq_getElem hja,Option.getD_some];exact List.getElem_mem hja)
 have hfb:=hR (done.getD jb []) (by rw [List.getD_eq_getElem?_getD,List.getElem?_eq_getElem hjb,Option.getD_some];exact List.getElem_mem hjb)
 rw [←hT]at ha hb ⊢
 obtain⟨nd,hnd⟩ : ∃n,n=done.length:=⟨_,rfl⟩
 rw [←hnd]at rr hja hjb
 generalize done.getD ja []=A at *
 generalize done.getD jb []=B at *
 have HA:=Lib.hid ha
 have HB:=Lib.hid hb
 have HFA:=Lib.hid hfa
 have HFB:=Lib.hid hfb
 have HLA:=Lib.hid hla4
 have HLB:=Lib.hid hlb4
 have HNA:=Lib.hid hnA
 have HNB:=Lib.hid hnB
 have HKD:=Lib.hid hkd
 have HTW:=Lib.hid ht
 have hnA5:nA≤4096:=by omega
 have hnB5:nB≤4096:=by omega
 have hxA:(ja:Int)<(nd:Int):=by omega
 have hxB:(jb:Int)<(nd:Int):=by omega
 have e0:=cell_lt rr
 have e1:=cell_lt ga
 clear hX hv1 hv2 ha hb hla4 hlb4 hfa hfb hpa hpb hnA hnB hnd hT hkd hla hlb hD hR ht
 go_enter Tryz.func97,Tryz.ntmps97
 go_wp2_with fail
 obtain⟨NB,hNB⟩ : ∃z,z=w.heap.size:=⟨_,rfl⟩
 obtain⟨W1,hW1⟩ : ∃z,z=w.alloc (.cells #[.int .i64 xk,.int .i64 (ja:Nat),.int .i64 (jb:Nat),.int .i64 xp,.string xt,.slice p1 n1 c1,.slice p2 n2 c2] 64):=⟨_,rfl⟩
 have X1:=Lib.hid (show Ext w W1 from by rw [hW1];exact(Ext.refl w).alloc _)
 have hS0:Ext w W1.drew∧W1.drew.cell? ⟨E,4,none⟩=some (.slice (some ⟨G,0,none⟩) nd cap)∧W1.drew.cell? ⟨NB,0,none⟩=some (.int .i64 xk)∧W1.drew.cell? ⟨NB,1,none⟩=some (.int .i64 (ja:Nat))∧W1.drew.cell? ⟨NB,2,none⟩=some (.int .i64 (jb:Nat))∧W1.drew.cell? ⟨G,ja,none⟩=some (.slice pa nA ca)∧W1.drew.cell? ⟨G,jb,none⟩=some (.slice pb nB cb):=by
  refine⟨X1.out.drew,X1.out.drew.at rr,?_,?_,?_,X1.out.drew.at ga,X1.out.drew.at gb⟩ <;> (rw [hW1,hNB];go_simp)
 rw [←hW1]
 try rw [←hNB]
 clear hW1 hNB rr ga gb e0 e1
 go_region_held3 (fun w'=>Ext w w'∧w'.cell? ⟨E,4,none⟩=some (.slice (some ⟨G,0,none⟩) nd cap)∧w'.cell? ⟨NB,0,none⟩=some (.int .i64 xk)∧w'.cell? ⟨NB,1,none⟩=some (.int .i64 (ja:Nat))∧w'.cell? ⟨NB,2,none⟩=some (.int .i64 (jb:Nat))∧w'.cell? ⟨G,ja,none⟩=some (.slice pa nA ca)∧w'.cell? ⟨G,jb,none⟩=some (.slice pb nB cb))
  (first |with_reducible assumption | with_reducible exact keepE6 (by assumption) xR | with_reducible exact keepE6 (by assumption) xL)
  (first
   |(go_at_call 98;refine(byValues_any T (.slice pb nB cb) B _ (fun k hk=>HTT.out k (Nat.le_trans (X1.out.drew.trans xL).size hk)) (HB.out.ext ((X1.out.drew.trans xL).sub _)) HLB.out (fun r hr=>⟨(HFB.out r hr).1,(HFB.out r hr).2.1⟩) (HTW.out.ext (X1.out.drew.trans xL))).mono ?_;rintro e w3 ⟨CR,rfl,clR,xR⟩)
   |(go_at_call 98;refine(byValues_any T (.slice pa nA ca) A _ (fun k hk=>HTT.out k (Nat.le_trans X1.out.drew.size hk)) (HA.out.ext (X1.out.drew.sub _)) HLA.out (fun r hr=>⟨(HFA.out r hr).1,(HFA.out r hr).2.1⟩) (HTW.out.ext X1.out.drew)).mono ?_;rintro e w2 ⟨CL,rfl,clL,xL⟩)
   |fail)
 all_goals
  have X3:=Lib.hid (show Ext w w3 from (X1.out.drew.trans xL).trans xR)
  have HCL:=Lib.hid (clL.ext xR)
  have HCR:=Lib.hid clR
  obtain⟨m0,m1,m2,m3,m4,m5,m6⟩:=keepE6 hS0 (xL.trans xR)
  have N0:=Lib.hid m2
  obtain⟨ks,hks⟩ : ∃z,z=firsts (A.map Row.vals):=⟨_,rfl⟩
  rw [←hks]at HCL
  have HKS:=Lib.hid hks
  have HNK:=Lib.hid (show ks.length≤4096 from by rw [hks];exact Nat.le_trans (firsts_len _) (by rw [List.length_map];exact HLA.out))
  have HKV:=Lib.hid (show ∀kv∈ks,kv.length≤1000∧ ∀y∈kv,y.s.size≤1048576 from fun kv hkv=>by
   rw [hks]at hkv
   obtain⟨r,hr,rfl⟩:=List.mem_map.1 (((firsts_law _).2 _).1 hkv)
   exact⟨(HFA.out r hr).1,(HFA.out r hr).2.1⟩)
  obtain⟨vv,l1,sv⟩:=HCL.out.c1
  obtain⟨rv,l2,sr⟩:=HCL.out.c2
  obtain⟨pv,cv,rfl,_,_,hpv⟩:=sv.form
  obtain⟨pr,cr,rfl,_,_,hpr⟩:=sr.form
  obtain⟨nK,hnK⟩ : ∃z,z=ks.length:=⟨_,rfl⟩
  have hml:(ks.map (selV A)).length=nK:=by rw [List.length_map,hnK]
  rw [hml]at l2 sr hpr
  rw [←hnK]at l1 sv hpv
  have HSV:=Lib.hid sv
  have HSR:=Lib.hid sr
  have HPV:=Lib.hid hpv
  have HPR:=Lib.hid hpr
  have HNKE:=Lib.hid hnK
  have hnK4:nK≤4096:=by rw [hnK];exact HNK.out
  have HML:=Lib.hid hml
  have L2:=Lib.hid l2
  have e1:=cell_lt l1
  clear hS0 m0 m1 m2 m3 m4 m5 m6 hks sv sr hpv hpr hnK hml clL clR xL xR l2
  go_wp2_with fail
  go_loopg [7,39] nK (fun gk vo vi wr=> ∃(k:Nat) (u:Value) (o:List Row),k≤nK∧gk=nK - k∧vi = .int .i64 k∧u=vo∧Hid (OwnOf Rep.row wr T w3.heap.size 58 u o)∧Hid (o=(ks.take k).flatMap (setRow xk A B))∧Hid (Ext w3 wr))
  case atStart=>exact⟨0,_,[],by omega,rfl,rfl,rfl,OwnOf.nil _ _ _ _ _,rfl,Ext.refl w3⟩
  case round =>
   clear e1 l1
   obtain⟨k,u,o,hk,rfl,rfl,rfl,OW,HO,X⟩:=hrel
   obtain⟨wo,rfl⟩ : ∃z,z=wr:=⟨wr,rfl⟩
   by_cases hlt:k<nK
   ·have hkl:k<ks.length:=by have:=HNKE.out;omega
    have hd:decide ((k:Int)<(nK:Int))=true:=by simp;omega
    obtain⟨gv,ov,rfl⟩:=HPV.out (by decide) (by omega)
    obtain⟨gr,og,rfl⟩:=HPR.out (by decide) (by omega)
    obtain⟨vk,c0,sk⟩:=slice_atT HSV.out k hkl
    obtain⟨vg,c1',sg⟩:=slice_atT HSR.out k (by rw [HML.out];exact hlt)
    rw [List.getElem_map]at sg
    have hst:=flatMap_take (setRow xk A B) ks k hkl
    rw [←HO.out]at hst
    have hkv:=HKV.out ks[k] (List.getElem_mem hkl)
    generalize ks[k]=kv at sk sg hst hkv
    obtain⟨pk,ck,rfl,-⟩:=sk.form
    obtain⟨pg,cg,rfl,-⟩:=sg.form
    obtain⟨K,hK⟩ : ∃z,z=kv.length:=⟨_,rfl⟩
    obtain⟨nG,hnG⟩ : ∃z,z=(selV A kv).length:=⟨_,rfl⟩
    rw [←hK]at c0 sk
    rw [←hnG]at c1' sg
    have HK:=Lib.hid hK
    have HNG:=Lib.hid hnG
    have HSK:=Lib.hid sk
    have HSG:=Lib.hid sg
    have HST:=Lib.hid hst
    have HKVF:=Lib.hid hkv
    have hnGB:nG≤4096:=by rw [hnG];exact Nat.le_trans (List.length_filter_le _ _) HLA.out
    have HOL:=Lib.hid (show o.length≤4096*4096 from by
     rw [HO.out]
     refine Nat.le_trans (flatSet_len _ _ _ _) (Nat.mul_le_mul ?_ HLA.out)
     rw [List.length_take];omega)
    replace c0:=X.out.at c0
    replace c1':=X.out.at c1'
    have l2:=X.out.at L2.out
    obtain⟨mbR,mR,r0,rm,rix⟩:=HCR.out.c0
    have HRM:=Lib.hid rm
    have HRIX:=Lib.hid rix
    replace r0:=X.out.at r0
    have HKS2:=Lib.hid (show keyOf Tryz.prog 9 (.string ⟨(keyVals kv).toArray⟩)=some (keyG kv)from key_str _ (keyG_len sk hkv.1 hkv.2))
    obtain⟨kst,hkst⟩ : ∃z:ByteArray,z=⟨(keyVals kv).toArray⟩:=⟨_,rfl⟩
    have HKST:=Lib.hid hkst
    rw [←hkst]at HKS2
    obtain⟨c,ok,hc,hok,HCO⟩ : ∃c ok,(mR (keyG kv)).getD (.int .i64 0)=c∧(mR (keyG kv)).isSome=ok∧Hid ((ok=false∧c = .int .i64 0∧selV B kv = [])∨(ok=true∧ ∃i:Nat,c = .int .i64 i∧ ∃h:i<(firsts (B.map Row.vals)).length,(firsts (B.map Row.vals))[i]=kv)):=by
     by_cases hin:kv∈firsts (B.map Row.vals)
     ·obtain⟨i,hi,he⟩:=List.getElem_of_mem hin
      have h1:=HRIX.out.1 i hi
      rw [he]at h1
      exact⟨_,_,rfl,rfl,.inr ⟨by rw [h1];rfl,i,by rw [h1];rfl,hi,he⟩⟩
     ·exact⟨_,_,rfl,rfl,.inl ⟨by rw [HRIX.out.2 kv hin];rfl,by rw [HRIX.out.2 kv hin];rfl,selV_none hin⟩⟩
    have HC1:=Lib.hid hc
    have HC2:=Lib.hid hok
    have e2:=cell_lt c0
    have e3:=cell_lt c1'
    have e4:=cell_lt l2
    have e5:=cell_lt r0
    clear sk sg hst hkv hK hnG hkl rm rix hkst hc hok
    obtain⟨T2,hT2⟩ : ∃z:Nat→Prop,z=fun y=>T y∧u.ownBlock≠some y:=⟨_,rfl⟩
    have HT2:=Lib.hid (show ∀y,wo.heap.size≤y→T2 y from fun y hy=>by
     rw [hT2]
     exact⟨HTT.out y (Nat.le_trans (X3.out.trans X.out).size hy),fun e=>by have:=(OW.out.lt y e).2;omega⟩)
    have HST2:=Lib.hid (show ∀y,T2 y→T y∧u.ownBlock≠some y from fun y hy=>by rw [hT2]at hy;exact hy)
    have HSUB:=Lib.hid (show Sub (on w3 T) (on wo T2)from fun p v e=>by
     obtain⟨h1,h2⟩:=on_some.1 e
     rw [hT2]
     exact on_some.2 ⟨⟨h1,fun e2=>by have h3:=(OW.out.lt _ e2).1;have h4:=World.block_lt_of_cell? w3 p h2;omega⟩,X.out.at h2⟩)
    clear hT2
    have HKEY:=Lib.hid (show ∀wx,Ext wo wx→Calls Tryz.prog 81 #[.slice pk K ck] wx fun e w'=>e = .returned (.string kst)∧Ext wx w' from fun wx hwx=>by
     rw [HKST.out]
     exact key_any _ kv _ (HSK.out.ext ((on_sub _ _).trans (X.out.trans hwx).full)) ⟨by have:=HKVF.out.1;omega,HKVF.out.2⟩ (HTW.out.ext ((X3.out.trans X.out).trans hwx)))
    go_wp2_with fail
    go_cut [13,14] (fun s13 s14 wx=>s13=c∧s14 = .bool ok∧Hid (Ext wo wx))
    case first =>
     go_region_law (first
      |((with_reducible refine key_op 59 ?_);go_simp;refine(HKEY.out _ (by first | with_reducible exact(Ext.refl wo).drew | exact(Ext.refl wo).drew)).mono ?_;rintro e w4 ⟨rfl,x4⟩;have X4:=Lib.hid (show Ext wo w4 from (Ext.refl wo).drew.trans x4);have r04:=X4.out.at r0;have e54:=cell_lt r04;have hlk:=lookupOk_run (HRM.out.kept (Ext.grows (X.out.trans X4.out)) (by simp)) (string_keyed Tryz.underlying9) Tryz.underlying162 (zero_i64 w4) ⟨0,rfl⟩ HKS2.out (keyG_lit _) HC1.out HC2.out))
     all_goals
      go_wp2_with fail
      go_meet
      exact⟨rfl,rfl,X4.out⟩
    case rest =>
    obtain⟨w4,rfl⟩ : ∃z,z=wc:=⟨wc,rfl⟩
    obtain⟨hs13,hs14,X4⟩:=hcut
    subst hs13 hs14
    obtain⟨vrR,r2,sR⟩:=HCR.out.c2
    obtain⟨pR,cR,rfl,_,_,hpR⟩:=sR.form
    have hRl:((firsts (B.map Row.vals)).map (selV B)).length=(firsts (B.map Row.vals)).length:=List.length_map _
    obtain⟨nR,hnR⟩ : ∃z,z=(firsts (B.map Row.vals)).length:=⟨_,rfl⟩
    rw [hRl,←hnR]at r2 sR hpR
    have HSR2:=Lib.hid sR
    have HPR2:=Lib.hid hpR
    have HNR:=Lib.hid hnR
    have r2:=X4.out.at (X.out.at r2)
    have e6:=cell_lt r2
    clear c0 c1' l2 r0 e2 e3 e4 e5 sR hpR hRl hnR
    go_upto_if 63 with fail
    go_cut [10,12] (fun s10 s12 wx=> ∃(pX:Option Addr) (nX cX:Nat) (kk:Nat),s10 = .slice pX nX cX∧s12 = .int .i64 kk∧Hid (SliceOf Rep.row (on wx T2) (.slice pX nX cX) (selV A kv++selV B kv))∧Hid (kk=(selV B kv).length)∧Hid (Ext wo wx))
    case first =>
     rcases HCO.out with ⟨rfl,rfl,hs0⟩ | ⟨rfl,i,rfl,hil,hik⟩
     ·have HS0:=Lib.hid hs0
      clear HCO HC1 HC2 hs0
      go_wp2_with fail
      go_meet
      exact⟨_,_,_,0,rfl,rfl,by rw [HS0.out,List.append_nil];exact(HSG.out.ext HSUB.out).ext (X4.out.sub _),by rw [HS0.out];rfl,X4.out⟩
     ·obtain⟨bR,oR,rfl⟩:=HPR2.out (by decide) (by have:=HNR.out;omega)
      obtain⟨vg2,c2',sg2⟩:=slice_atT HSR2.out i (by rw [List.length_map];exact hil)
      rw [List.getElem_map,hik]at sg2
      obtain⟨pg2,cg2,rfl,-⟩:=sg2.form
      obtain⟨nH,hnH⟩ : ∃z,z=(selV B kv).length:=⟨_,rfl⟩
      rw [←hnH]at c2' sg2
      have HNH:=Lib.hid hnH
      have HSG2:=Lib.hid sg2
      replace c2':=X4.out.at (X.out.at c2')
      have e7:=cell_lt c2'
      have hin:(i:Int)<(nR:Int):=by have:=HNR.out;omega
      have hin2:i<nR:=by omega
      have HLIT:=Lib.hid (show SliceOf (Rep.slice Rep.row) (on (w4.alloc (.cells #[.slice pg nG cg,.slice pg2 nH cg2] 40)) T2) (.slice (some ⟨w4.heap.size,0,none⟩) 2 2) [selV A kv,selV B kv]from
       lit2R (fun k hk=>HT2.out k (Nat.le_trans X4.out.size hk)) ((HSG.out.ext HSUB.out).ext (X4.out.sub _)) ((HSG2.out.ext HSUB.out).ext (X4.out.sub _)))
      have HFL:=Lib.hid (show ([selV A kv,selV B kv]:List (List Row)).flatten=selV A kv++selV B kv from by simp)
      have hnHB:nH≤4096:=by rw [hnH];exact Nat.le_trans (List.length_filter_le _ _) HLB.out
      clear HCO HC1 HC2 hil hik sg2 hnH
      go_wp2_with fail
      refine(concat_row T2 _ [selV A kv,selV B kv] _ HLIT.out (by rw [HFL.out,List.length_append,←HNG.out,←HNH.out];omega)).mono ?_
      rintro e w5 ⟨v5,rfl,o5,x5⟩
      rw [HFL.out]at o5
      have S5:=Lib.hid (show SliceOf Rep.row (on w5 T2) v5 (selV A kv++selV B kv)from o5.sliceIn (fun _ _ h=>h) (fun k hk=>HT2.out k (Nat.le_trans (X4.out.alloc _).size hk)))
      have X5:=Lib.hid (show Ext wo w5 from (X4.out.alloc _).trans x5)
      obtain⟨p5,q5,rfl,-⟩:=o5.slice.form
      clear o5 x5
      go_wp2_with fail
      go_meet
      refine⟨_,_,_,nH,rfl,rfl,?_,HNH.out,X5.out⟩
      have h:=S5.out
      rw [List.length_append]at h
      exact h
    case rest =>
     obtain⟨pX,nX,cX,kk,rfl,rfl,SX,HKK,XC⟩:=hcut
     clear HCO HC1 HC2 r2 e6
     have n0:=(X.out.trans XC.out).at N0.out
     have e8:=cell_lt n0
     have hkkB:kk≤4096:=by rw [HKK.out];exact Nat.le_trans (List.length_filter_le _ _) HLB.out
     obtain⟨cnt,hcnt⟩ : ∃z,z=cntS xk nG kk:=⟨_,rfl⟩
     have hcb:cnt≤4096:=by rw [hcnt];unfold cntS;split <;> omega
     have HSET:=Lib.hid (show setRow xk A B kv=List.replicate cnt ⟨kv,linS (selV A kv++selV B kv)⟩from by
      unfold setRow
      rw [hcnt,HNG.out,HKK.out])
     have HXL:=Lib.hid (show (selV A kv++selV B kv).length≤8192∧ ∀r∈selV A kv++selV B kv,r.lin.length≤1000 from by
      refine⟨?_,fun r hr=> ?_⟩
      ·rw [List.length_append,←HNG.out,←HKK.out];omega
      ·rcases List.mem_append.1 hr with hr | hr
       · exact(HFA.out r (List.mem_filter.1 hr).1).2.2
       · exact(HFB.out r (List.mem_filter.1 hr).1).2.2)
     have HU:=Lib.hid (show ∀x,u.ownBlock=some x→x<wo.heap.size from fun x hx=>(OW.out.lt x hx).2)
     go_upto_if 87 with fail
     obtain⟨wq,rfl⟩ : ∃z,z=wc:=⟨wc,rfl⟩
     go_cut [15] (fun s15 wx=>s15 = .int .i64 (cnt:Nat)∧wx=wq)
     case first =>
      by_cases h7:xk=7
      ·have b7:(xk==7)=true:=by simp [h7]
       have hcv:IntKind.i64.wrap ((nG:Int) - min (nG:Int) (kk:Int))=(cnt:Int):=by
         rw [hcnt,IntKind.wrap_i64]
         unfold cntS
         rw [if_pos h7]
         omega
       rw [b7]
       go_wp2_with fail
       go_meet
       exact⟨by first | rw [hcv] | rfl | rw [hcnt,h7],rfl⟩
      ·have b7:(xk==7)=false:=by simp [h7]
       have hcv:min (nG:Int) (kk:Int)=(cnt:Int):=by
         rw [hcnt]
         unfold cntS
         rw [if_neg h7]
         omega
       rw [b7]
       go_wp2_with fail
       go_meet
       exact⟨by first | rw [hcv] | rfl,rfl⟩
     case rest =>
      obtain⟨rfl,rfl⟩:=hcut
      obtain⟨all,hall⟩ : ∃z,z=selV A kv++selV B kv:=⟨_,rfl⟩
      rw [←hall]at SX HXL HSET
      obtain⟨ls,hls⟩ : ∃z,z=linS all:=⟨_,rfl⟩
      rw [←hls]at HSET
      have HLS:=Lib.hid hls
      have hnX:nX=all.length:=by
       obtain⟨_,_,hh,-⟩:=SX.out.form
       injection hh
      have HNX:=Lib.hid hnX
      have HOU:=Lib.hid (OW.out.ext XC.out)
      have SX0:=Lib.hid (show SliceOf Rep.row (on wc (fun y=>y<wc.heap.size∧T2 y)) (.slice pX nX cX) all from SX.out.ext (on_mono wc fun y hy h=>⟨hy,h⟩))
      have HUC:=Lib.hid (show ∀y,u.ownBlock=some y→w3.heap.size≤y from fun y hy=>(OW.out.lt y hy).1)
      clear hcnt hls hall hnX n0 e8
      go_wp2_with fail
      go_loopg [7,92] cnt (fun gj vo vj wr=> ∃(j:Nat) (u':Value),j≤cnt∧gj=cnt - j∧vj = .int .i64 j∧u'=vo∧Hid (OwnOf Rep.row wr T w3.heap.size 58 u' (o++List.replicate j ⟨kv,ls⟩))∧Hid (SliceOf Rep.row (on wr (fun y=>y<wc.heap.size∧T2 y)) (.slice pX nX cX) all)∧Hid (∀y,u'.ownBlock=some y→u.ownBlock=some y∨wc.heap.size≤y)∧Hid (Ext w3 wr∧wc.heap.size≤wr.heap.size))
      case atStart=>exact⟨0,_,by omega,rfl,rfl,rfl,(by show OwnOf _ _ _ _ _ _ _;rw [List.replicate_zero,List.append_nil];exact HOU.out),SX0.out,fun y hy=> .inl hy,X.out.trans XC.out,Nat.le_refl _⟩
      case round =>
       clear HOU
       obtain⟨j,u',hj,rfl,rfl,rfl,OJ,SJ,HU2,XJ⟩:=hrel
       by_cases hlt2:j<cnt
       · have hd2:decide ((j:Int)<(cnt:Int))=true:=by simp;omega
         have hd3:(j:Int)<(cnt:Int):=by omega
         obtain⟨ps,hps⟩ : ∃z,z=o++List.replicate j ⟨kv,ls⟩:=⟨_,rfl⟩
         rw [←hps]at OJ
         have hpl:ps.length≤4096*4097:=by rw [hps,List.length_append,List.length_replicate];have:=HOL.out;omega
         have HPS:=Lib.hid hps
         have B1:ps.length+1≤maxLen:=by unfold maxLen;omega
         have B2:(ps.length+1)*48≤140737488355328:=by omega
         have HBB:=Lib.hid (And.intro B1 B2)
         clear hps hpl B1 B2
         go_wp2_with fail
         refine(lineage_any _ all _ (SJ.out.ext (on_sub _ _)) HXL.out.1 HXL.out.2).mono ?_
         rintro e w5 ⟨v5,rfl,s5,x5⟩
         rw [←HLS.out]at s5
         obtain⟨p5,q5,rfl,-⟩:=s5.form
         obtain⟨nl,hnl⟩ : ∃z,z=ls.length:=⟨_,rfl⟩
         rw [←hnl]at s5 ⊢
         have S5:=Lib.hid s5
         have X5:=Lib.hid x5
         have XD:=Lib.hid ((XJ.out.1.trans x5).alloc (.cells #[.slice pk K ck,.slice p5 nl q5] 58))
         have OA:=Lib.hid (OJ.out.ext (X5.out.alloc (.cells #[.slice pk K ck,.slice p5 nl q5] 58)))
         have HNY:=Lib.hid (show Rep.row.holds (on (w5.alloc (.cells #[.slice pk K ck,.slice p5 nl q5] 58)) (avoid T u')) [.slice pk K ck,.slice p5 nl q5] ⟨kv,ls⟩from
          ⟨_,_,rfl,HSK.out.ext (old_allT XD.out OA.out.base),S5.out.ext ((((Ext.refl w5).alloc (.cells #[.slice pk K ck,.slice p5 nl q5] 58)).sub _).trans (sub_newT (fun kk hkk=>HTT.out kk (Nat.le_trans (X3.out.trans XJ.out.1).size hkk)) fun kk hkk=>(OJ.out.lt kk hkk).2))⟩)
         clear s5 x5 hnl
         go_wp2_with (at_builtin;go_loud (refine wpList_append_one Rep.row T rfl _ _ 40 rfl w3.heap.size 58 i0 _ 48 Tryz.underlying40 hi hz0 hz1 hz2 rfl (by decide) u' ps rfl (by exact OA.out) ⟨w5.heap.size,0,none⟩ 1 ⟨kv,ls⟩ [.slice pk K ck,.slice p5 nl q5] rfl (by exact HNY.out) (by exact cells_new w5 [.slice pk K ck,.slice p5 nl q5] _) HBB.out.1 HBB.out.2 (by exact XD.out.size) ?_))
         intro g9 cap9 w7 own gr9 hg9
         have X7:=Lib.hid (show Ext w3 w7 from XD.out.grownNew gr9 (fun y hy=>(OJ.out.lt y hy).1))
         have xe:=X5.out.alloc (.cells #[.slice pk K ck,.slice p5 nl q5] 58)
         have HZ7:=Lib.hid (show wc.heap.size≤w7.heap.size from Nat.le_trans XJ.out.2 (Nat.le_trans xe.size gr9.size))
         have SJ7:=Lib.hid (show SliceOf Rep.row (on w7 (fun y=>y<wc.heap.size∧T2 y)) (.slice pX nX cX) all from (SJ.out.ext (xe.sub _)).ext (grown_sub gr9 fun y hy e=>by
          rcases HU2.out y e.symm with h | h
          ·exact(HST2.out y hy.2).2 h
          ·have:=hy.1;omega))
         have HU7:=Lib.hid (show ∀y,(Value.slice (some ⟨g9,0,none⟩) (ps.length+1) cap9).ownBlock=some y→u.ownBlock=some y∨wc.heap.size≤y from fun y hy=>by
          have e:g9=y:=Option.some.inj hy
          rcases hg9 with h | h
          ·exact HU2.out y (by rw [h,e])
          ·right
           have h1:=XJ.out.2
           have h2:=xe.size
           have h3:=X5.out.size
           rw [←e,h]
           first
            |omega
            |(simp;omega))
         have OW7:=Lib.hid (show OwnOf Rep.row w7 T w3.heap.size 58 (.slice (some ⟨g9,0,none⟩) (ps.length+1) cap9) (o++List.replicate (j+1) ⟨kv,ls⟩)from by
          rw [List.replicate_succ',←List.append_assoc,←HPS.out]
          exact own)
         clear own gr9 hg9 xe
         go_wp2_with fail
         go_roundg (cnt - (j+1))
         case measure=>omega
         case rel=>exact⟨j+1,_,by omega,rfl,by go_num,rfl,OW7.out,SJ7.out,HU7.out,X7.out,HZ7.out⟩
       · have hjN:j=cnt:=by omega
         have hd2 : ¬(j:Int)<(cnt:Int):=by omega
         have OF:=Lib.hid (show OwnOf Rep.row wr T w3.heap.size 58 u' (o++setRow xk A B kv)from by rw [HSET.out,←hjN];exact OJ.out)
         clear hjN
         go_wp2_with fail
         go_roundg (nK - (k+1))
         case measure=>omega
         case rel=>exact⟨k+1,_,o++setRow xk A B kv,by omega,rfl,by go_num,rfl,OF.out,HST.out.symm,XJ.out.1⟩
   ·have hkN:k=nK:=by omega
    have hd : ¬(k:Int)<(nK:Int):=by omega
    have HF:=Lib.hid (show o=setP xk A B from by
     have h:=HO.out
     rw [hkN,HNKE.out,List.take_length,HKS.out]at h
     exact h)
    clear hkN
    go_wp2_with fail
    go_ret
    exact⟨_,rfl,by rw [←HF.out];exact OW.out.sliceIn (fun _ _ h=>h) (fun k hk=>HTT.out k (Nat.le_trans X3.out.size hk)),X3.out.trans X.out⟩
end Go.Proofs.YtombmdaohcjokaaGreatDoor
namespace Go.Proofs.YtombmdaohcjokaaGreatDoor
open Go.RowKit Go.Shelf Go.Sort
end Go.Proofs.YtombmdaohcjokaaGreatDoor
namespace Go.Proofs.YtombmdaohcjokaaGreatDoor
open Go.RowKit
theorem cells_new2 (w:World) (o:Obj) (xs:List Value) (T:TypeId) : ∀j u,xs[j]?=some u→((w.alloc o).alloc (.cells xs.toArray T)).cell? ((⟨w.heap.size+1,0,none⟩:Addr).add j)=some u:=by
 have h:=cells_new (w.alloc o) xs T
 rw [show (w.alloc o).heap.size=w.heap.size+1 by simp]at h
 exact h
def subUpto (A B:List Per) (k:Nat):List Per:=(A.take k).flatMap fun p=>subP1 p.to_ p.from_ B
end Go.Proofs.YtombmdaohcjokaaGreatDoor
namespace Go.Proofs.YtombmdaohcjokaaGreatDoor
open Go.RowKit
def MatPost (w:World) (n:Nat) (js:List Tup) (ps:Nat→List Per) (e:Ending) (w':World):Prop :=
 ∃u pb f S base,e = .returned (.tuple #[u,.slice (some ⟨pb,0,none⟩) n n])∧w.heap.size≤base∧OwnOf Rep.tup w' S base 125 u js∧MInv w' pb n base 123 125 f u js ps∧Ext w w'
end Go.Proofs.YtombmdaohcjokaaGreatDoor
namespace Go.Proofs.YtombmdaohcjokaaGreatDoor
open Go.RowKit
def fewT (l:List Tup):Prop:= ∀t∈l,t.vals.length≤1000∧(∀x∈t.vals,x.s.size≤1048576)∧t.lin.length≤1000
end Go.Proofs.YtombmdaohcjokaaGreatDoor
namespace Go.Proofs.YtombmdaohcjokaaGreatDoor
open Go.RowKit
def nullW (width:Int):Nat:=(min (max width 0) 64).toNat
theorem nulls_flat (x y z:Value) (N:Nat):(madeCells #[x,y,z] (N*3)).toList=(List.replicate N [x,y,z]).flatten:=by
 induction N with
 |zero=>simp [madeCells]
 |succ N ih =>
  rw [List.replicate_succ',List.flatten_append,←ih]
  unfold madeCells
  rw [Array.toList_map,Array.toList_map,Array.toList_range,Array.toList_range,show (N+1)*3=N*3+1+1+1 by omega,List.range_succ,List.range_succ,List.range_succ,List.map_append,List.map_append,List.map_append,List.append_assoc,List.append_assoc]
  congr 1
  have e0:(N*3) % 3=0:=by omega
  have e1:(N*3+1) % 3=1:=by omega
  have e2:(N*3+1+1) % 3=2:=by omega
  simp [e0,e1,e2]
theorem rep_replicate {α:Type} {R:Rep α} {h:View} {c:List Value} {x:α} (hc:R.holds h c x) (n:Nat):RepAll R h (List.replicate n c) (List.replicate n x):=by
 induction n with
 |zero=>trivial
 |succ n ih=>exact⟨hc,ih⟩
end Go.Proofs.YtombmdaohcjokaaGreatDoor
namespace Go.Proofs.YtombmdaohcjokaaGreatDoor
open Go.RowKit Go.Maps Go.Deep
theorem lit2V {wz:World} {T:TypeId} {pa pb:Option Addr} {ca cb:Nat} {xv yv:List Val} (ha:SliceOf Rep.val wz.cell? (.slice pa xv.length ca) xv) (hb:SliceOf Rep.val wz.cell? (.slice pb yv.length cb) yv) :
  SliceOf (Rep.slice Rep.val) (wz.alloc (.cells #[.slice pa xv.length ca,.slice pb yv.length cb] T)).cell? (.slice (some ⟨wz.heap.size,0,none⟩) 2 2) [xv,yv] :=
 slice_lit (Rep.slice Rep.val) wz [.slice pa xv.length ca,.slice pb yv.length cb] T [[.slice pa xv.length ca],[.slice pb yv.length cb]] [xv,yv] rfl ⟨⟨_,rfl,ha.ext ((Ext.refl wz).alloc _).full⟩,⟨_,rfl,hb.ext ((Ext.refl wz).alloc _).full⟩,trivial⟩ (by simp [maxLen])
set_option maxRecDepth 100000 in
set_option maxHeartbeats 16000000 in
theorem ejoin_any (E:Nat) (q:QueryI) (db:List TabI) (cols:List (List Int)) (vr:Value) (done:List (List Row)) (x:NodeI) (ve va:Value) (w:World) (hX:EvA w E q db cols vr done) (hkd:x.kind=4∨x.kind=5) (he:SliceOf Rep.int w.cell? ve x.exprs) (hg:SliceOf Rep.agg w.cell? va x.aggs)
  (hla:legN done.length x.a=true) (hlb:legN done.length x.b=true) (hcl:cols.length≤40∧done.length≤cols.length) (hD : ∀l∈done,l.length≤4096) (hR : ∀l∈done,∀r∈l,fitE r) (hC : ∀l∈cols,l.length≤64) (hel:q.exprs.length≤1000) :
  Calls Tryz.prog 95 #[.pointer (some ⟨E,0,none⟩),nodeV x ve va] w fun e w'=> ∃v l,e = .returned v∧SliceOf Rep.row (on w' (avoid (fun b=>b≠E) vr)) v l∧WholeOr 4096 (refJ (trE q.exprs x.pred) (if x.kind=5 then((cols.getD x.b.toNat []).length:Int)else -1) (done.getD x.a.toNat []) (done.getD x.b.toNat [])) l∧Ext w w':=by
 have mixed:=mixedA
 obtain⟨i0,hi,hz0,hz1,hz2⟩:=info_parts infoRow
 obtain⟨i1,hi1,hz10,hz11,hz12⟩:=info_parts info_valC
 obtain⟨p1,c1,rfl,-⟩:=he.form
 obtain⟨p2,c2,rfl,-⟩:=hg.form
 obtain⟨xk,xa,xb,xp,xt,xe,xg⟩:=x
 dsimp only at he hg hla hlb hkd ⊢
 obtain⟨n1,hn1⟩ : ∃n,n=xe.length:=⟨_,rfl⟩
 obtain⟨n2,hn2⟩ : ∃n,n=xg.length:=⟨_,rfl⟩
 rw [←hn1,←hn2]
 clear hn1 hn2 he hg
 obtain⟨tr,htr⟩ : ∃tr,tr=trE q.exprs xp:=⟨_,rfl⟩
 rw [←htr]
 have HTR:=Lib.hid htr
 obtain⟨ja,rfl,hja⟩:=legN_nat hla
 obtain⟨jb,rfl,hjb⟩:=legN_nat hlb
 rw [Int.toNat_natCast,Int.toNat_natCast]
 obtain⟨W,hW⟩ : ∃W:Int,W=if xk=5 then((cols.getD jb []).length:Int)else -1:=⟨_,rfl⟩
 rw [←hW]
 obtain⟨T,hT⟩ : ∃T:Nat→Prop,T=avoid (fun b=>b≠E) vr:=⟨_,rfl⟩
 have HTT:=Lib.hid (show ∀k,w.heap.size≤k→T k from by rw [hT];exact hX.newT)
 obtain⟨G,cap,pa,nA,ca,hv1,ga,hnA,hpa,ha⟩:=hX.row hja
 obtain⟨G',cap',pb,nB,cb,hv2,gb,hnB,hpb,hb⟩:=hX.row hjb
 obtain⟨rfl,rfl⟩:=same_row (hv1.symm.trans hv2)
 have rr:=hX.rr
 rw [hv1]at rr
 obtain⟨pe,ee,re⟩:=hX.ee
 obtain⟨pE,cE,rfl,-⟩:=re.form
 obtain⟨pc,ec,rc⟩:=hX.cc
 obtain⟨pC,cC,rfl,_,_,hpC⟩:=rc.form
 have hjc:jb<cols.length:=by omega
 obtain⟨gC,oC,rfl⟩:=hpC (by decide) (by omega)
 obtain⟨vcb,gcb,scb⟩:=rows_at rc jb hjc
 obtain⟨pcb,ccb,rfl,-⟩:=scb.form
 have hcb:=hC _ (List.getElem_mem hjc)
 have hgcb:cols.getD jb []=cols[jb]:=by rw [List.getD_eq_getElem?_getD,List.getElem?_eq_getElem hjc,Option.getD_some]
 have hla4:=hD (done.getD ja []) (by rw [List.getD_eq_getElem?_getD,List.getElem?_eq_getElem hja,Option.getD_some];exact List.getElem_mem hja)
 have hlb4:=hD (done.getD jb []) (by rw [List.getD_eq_getElem?_getD,List.getElem?_eq_getElem hjb,Option.getD_some];exact List.getElem_mem hjb)
 have hfa:=hR (done.getD ja []) (by rw [List.getD_eq_getElem?_getD,List.getElem?_eq_getElem hja,Option.getD_some];exact List.getElem_mem hja)
 have hfb:=hR (done.getD jb []) (by rw [List.getD_eq_getElem?_getD,List.getElem?_eq_getElem hjb,Option.getD_some];exact List.getElem_mem hjb)
 rw [←hT]at ha hb re rc scb ⊢
 rw [hgcb]at hW
 obtain⟨nC,hnC⟩ : ∃n,n=cols.length:=⟨_,rfl⟩
 obtain⟨nc,hnc⟩ : ∃n,n=cols[jb].length:=⟨_,rfl⟩
 obtain⟨nd,hnd⟩ : ∃n,n=done.length:=⟨_,rfl⟩
 obtain⟨nE,hnE⟩ : ∃n,n=q.exprs.length:=⟨_,rfl⟩
 rw [←hnc]at hW hcb gcb
 rw [←hnd]at rr hja hjb
 rw [←hnC]at ec hjc
 rw [←hnE]at ee re
 generalize done.getD ja []=A at *
 generalize done.getD jb []=B at *
 have HA:=Lib.hid ha
 have HB:=Lib.hid hb
 have HE:=Lib.hid (re.ext (on_sub _ _))
 have HNE:=Lib.hid hnE
 have HEL:=Lib.hid hel
 have HFA:=Lib.hid hfa
 have HFB:=Lib.hid hfb
 have HPA:=Lib.hid hpa
 have HPB:=Lib.hid hpb
 have HNA:=Lib.hid hnA
 have HNB:=Lib.hid hnB
 have HWW:=Lib.hid hW
 have HKD:=Lib.hid hkd
 have hnA5:nA≤4096:=by omega
 have hnB5:nB≤4096:=by omega
 have hncb:nc≤64:=hcb
 have hxA:(ja:Int)<(nd:Int):=by omega
 have hxB:(jb:Int)<(nd:Int):=by omega
 have hxC:(jb:Int)<(nC:Int):=by omega
 have e0:=cell_lt rr
 have e1:=cell_lt ga
 have e2:=on_some.1 gcb
 have e3:=cell_lt e2.2
 replace gcb:=e2.2
 clear hX hv1 hv2 ha hb re rc scb hcb hgcb hla4 hlb4 hfa hfb hpa hpb hnA hnB hnC hnc hnd hnE hW hT hkd hla hlb hcl hD hR hC hel htr hpC e2
 go_enter Tryz.func95,Tryz.ntmps95
 go_wp2_with fail
 go_big_region_o
 go_wp2_with fail
 obtain⟨NB,hNB⟩ : ∃z,z=w.heap.size:=⟨_,rfl⟩
 obtain⟨W0,hW0⟩ : ∃z,z=(w.alloc (.cells #[.int .i64 xk,.int .i64 (ja:Nat),.int .i64 (jb:Nat),.int .i64 xp,.string xt,.slice p1 n1 c1,.slice p2 n2 c2] 64)).drew:=⟨_,rfl⟩
 have X0:=Lib.hid (show Ext w W0 from by rw [hW0];exact((Ext.refl w).alloc _).drew)
 have NC:=Lib.hid (show W0.cell? ⟨NB,0,none⟩=some (.int .i64 xk)∧W0.cell? ⟨NB,2,none⟩=some (.int .i64 (jb:Nat))∧W0.cell? ⟨NB,3,none⟩=some (.int .i64 xp)from by rw [hW0,hNB];exact⟨by go_simp,by go_simp,by go_simp⟩)
 have EC:=Lib.hid (show W0.cell? ⟨E,1,none⟩=some (.slice pE nE cE)∧W0.cell? ⟨E,3,none⟩=some (.slice (some ⟨gC,oC,none⟩) nC cC)∧W0.cell? ⟨E,4,none⟩=some (.slice (some ⟨G,0,none⟩) nd cap)∧W0.cell? ⟨G,jb,none⟩=some (.slice pb nB cb)∧W0.cell? ⟨gC,oC+jb,none⟩=some (.slice pcb nc ccb)from ⟨X0.out.at ee,X0.out.at ec,X0.out.at rr,X0.out.at gb,X0.out.at gcb⟩)
 rw [←hW0]
 try rw [←hNB]
 have HBW:=Lib.hid (show w.heap.size≤W0.heap.size from X0.out.size)
 clear hW0 hNB ee ec rr ga gb gcb e0 e1 e3
 go_loopg [5,22] nA (fun gk vo vi wr=> ∃(k:Nat) (u:Value) (o:List Row),k≤nA∧gk=nA - k∧vi = .int .i64 k∧u=vo∧Hid (OwnOf Rep.row wr T W0.heap.size 58 u o)∧Hid (o=refJ tr W (A.take k) B)∧Hid (Ext W0 wr))
 case atStart=>exact⟨0,_,[],by omega,rfl,rfl,rfl,OwnOf.nil _ _ _ _ _,rfl,Ext.refl W0⟩
 case round =>
  obtain⟨k,u,o,hk,rfl,rfl,rfl,OW,HO,X⟩:=hrel
  obtain⟨wo,rfl⟩ : ∃z,z=wr:=⟨wr,rfl⟩
  by_cases hlt:k<nA
  ·have hkl:k<A.length:=by have:=HNA.out;omega
   have hd:decide ((k:Int)<(nA:Int))=true:=by simp;omega
   obtain⟨ba,oa,rfl⟩:=HPA.out (by omega)
   have hv:=HA.out
   rw [HNA.out]at hv
   obtain⟨ua,ub,c0,c1,g0,g1⟩:=row_at hv k hkl
   obtain⟨pxa,kxa,rfl,-⟩:=g0.form
   obtain⟨pxb,kxb,rfl,-⟩:=g1.form
   have hst:=refJ_take tr W A B k hkl
   rw [←HO.out]at hst
   have hfx:=HFA.out A[k] (List.getElem_mem hkl)
   have hearly:=whole_early tr W 4096 A B k
   rw [←HO.out]at hearly
   have hol:o.length≤4096*4097:=by
    rw [HO.out]
    refine Nat.le_trans (refJ_len tr W _ _) ?_
    rw [List.length_take]
    have h1:=HNB.out
    exact Nat.mul_le_mul (by omega) (by omega)
   replace c0:=X.out.at (X0.out.at (on_some.1 c0).2)
   replace c1:=X.out.at (X0.out.at (on_some.1 c1).2)
   have HEARLY:=Lib.hid (fun j h=>hearly j hkl h)
   generalize A[k]=x at c0 c1 g0 g1 hst hfx HEARLY
   obtain⟨xv,xl⟩:=x
   dsimp only at c0 c1 g0 g1
   have HFX:=Lib.hid (show xv.length≤1000∧xl.length≤1000 from ⟨hfx.1,hfx.2.2⟩)
   have HST:=Lib.hid hst
   have HOL:=Lib.hid hol
   obtain⟨nxv,hnxv⟩ : ∃z,z=xv.length:=⟨_,rfl⟩
   obtain⟨nxl,hnxl⟩ : ∃z,z=xl.length:=⟨_,rfl⟩
   rw [←hnxv]at c0 g0
   rw [←hnxl]at c1 g1
   have HNXV:=Lib.hid hnxv
   have HG1W:=Lib.hid (g1.ext (X0.out.sub _))
   have HG0W:=Lib.hid (g0.ext (X0.out.sub _))
   have e0:=cell_lt c0
   have r4:=X.out.at EC.out.2.2.1
   have r2:=X.out.at NC.out.2.1
   have rb:=X.out.at EC.out.2.2.2.1
   have e4:=cell_lt r4
   have e5:=cell_lt r2
   have e6:=cell_lt rb
   clear hv g0 g1 hst hfx hol hearly hnxv hnxl
   go_wp2_with fail
   go_big_region_o
   go_wp2_with fail
   obtain⟨bx,hbx⟩ : ∃z,z=wo.heap.size:=⟨_,rfl⟩
   obtain⟨Wx,hWx⟩ : ∃z,z=(wo.alloc (.cells #[.slice pxa nxv kxa,.slice pxb nxl kxb] 58)).drew:=⟨_,rfl⟩
   have XX:=Lib.hid (show Ext wo Wx from by rw [hWx];exact((Ext.refl wo).alloc _).drew)
   have BX:=Lib.hid (show Wx.cell? ⟨bx,0,none⟩=some (.slice pxa nxv kxa)∧Wx.cell? ⟨bx,1,none⟩=some (.slice pxb nxl kxb)from by rw [hWx,hbx];exact⟨by go_simp,by go_simp⟩)
   have HBX:=Lib.hid hbx
   rw [←hWx]
   try rw [←hbx]
   clear hWx hbx c0 c1 e0 r4 r2 rb e4 e5 e6
   go_loopg [5,8,35] nB (fun gj vo vf vj wr=> ∃(j:Nat) (u':Value) (m:List Row),j≤nB∧gj=nB - j∧vj = .int .i64 j∧u'=vo∧vf = .int .i64 (m.length:Nat)∧Hid (∀kk,Value.ownBlock u'=some kk→kk≠bx)∧Hid (OwnOf Rep.row wr T W0.heap.size 58 u' (o++m))∧Hid (m=joinRow tr (B.take j) ⟨xv,xl⟩)∧Hid (Ext W0 wr)∧Hid (wr.cell? ⟨bx,0,none⟩=some (.slice pxa nxv kxa)∧wr.cell? ⟨bx,1,none⟩=some (.slice pxb nxl kxb)))
   case atStart=>exact⟨0,_,[],by omega,rfl,rfl,rfl,rfl,(fun kk hkk=>by have h1:=(OW.out.lt kk hkk).2;have h2:=HBX.out;omega),(show OwnOf _ _ _ _ _ _ _ from by rw [List.append_nil];exact OW.out.ext XX.out),rfl,X.out.trans XX.out,BX.out⟩
   case round =>
    clear BX
    obtain⟨j,u',m,hj,rfl,rfl,rfl,rfl,HNE2,OM,HM,XW,YY⟩:=hrel
    have y0:=YY.out.1
    have y1:=YY.out.2
    have f0:=cell_lt y0
    by_cases hlt2:j<nB
    ·have hjl:j<B.length:=by have:=HNB.out;omega
     have hd2:decide ((j:Int)<(nB:Int))=true:=by simp;omega
     obtain⟨bb,ob,rfl⟩:=HPB.out (by omega)
     have hv:=HB.out
     rw [HNB.out]at hv
     obtain⟨va',vb',d0,d1,g2,g3⟩:=row_at hv j hjl
     obtain⟨pya,kya,rfl,-⟩:=g2.form
     obtain⟨pyb,kyb,rfl,-⟩:=g3.form
     have hst2:=joinRow_take tr B ⟨xv,xl⟩ j hjl
     rw [←HM.out]at hst2
     have hfy:=HFB.out B[j] (List.getElem_mem hjl)
     have hml:m.length≤4096:=by
      rw [HM.out]
      have h1:=joinRow_len tr (B.take j) ⟨xv,xl⟩
      rw [List.length_take]at h1
      omega
     have X0W:=X0.out.trans XW.out
     replace d0:=X0W.at (on_some.1 d0).2
     replace d1:=X0W.at (on_some.1 d1).2
     have G2:=Lib.hid (g2.ext ((on_sub _ _).trans X0W.full))
     have G3:=Lib.hid (g3.ext ((on_sub _ _).trans X0W.full))
     generalize B[j]=y at d0 d1 G2 G3 hst2 hfy
     obtain⟨yv,yl⟩:=y
     dsimp only at d0 d1 G2 G3 hst2
     have HST2:=Lib.hid hst2
     have HFY:=Lib.hid (show yv.length≤1000∧yl.length≤1000 from ⟨hfy.1,hfy.2.2⟩)
     have HML:=Lib.hid hml
     obtain⟨nyv,hnyv⟩ : ∃z,z=yv.length:=⟨_,rfl⟩
     obtain⟨nyl,hnyl⟩ : ∃z,z=yl.length:=⟨_,rfl⟩
     rw [←hnyv]at d0 G2
     rw [←hnyl]at d1 G3
     have HNYV:=Lib.hid hnyv
     have f1:=cell_lt d0
     obtain⟨pu,cu,hu,_⟩:=OM.out.slice.form
     subst hu
     obtain⟨om,hom⟩ : ∃z,z=o++m:=⟨_,rfl⟩
     rw [←hom]at OM HNE2 ⊢
     obtain⟨no,hno⟩ : ∃z,z=om.length:=⟨_,rfl⟩
     rw [←hno]at OM HNE2 ⊢
     have HNO:=Lib.hid hno
     have HOM:=Lib.hid hom
     have hnoB:no≤20000000:=by rw [hno,hom,List.length_append];have:=HOL.out;omega
     obtain⟨nm,hnm⟩ : ∃z,z=m.length:=⟨_,rfl⟩
     rw [←hnm]
     have HNM:=Lib.hid hnm
     have hnmB:nm≤4096:=by omega
     clear hv g2 g3 hst2 hfy hml hnyv hnyl hno hom X0W hnm
     go_wp2_with fail
     obtain⟨W3,hW3⟩ : ∃z,z=wr.alloc (.cells #[.slice pya nyv kya,.slice pyb nyl kyb] 58):=⟨_,rfl⟩
     have X3:=Lib.hid (show Ext wr W3 from by rw [hW3];exact(Ext.refl wr).alloc _)
     have h3s:W3.heap.size=wr.heap.size+1:=by rw [hW3];exact alloc_size _ _
     have DD:=Lib.hid (show W3.cell? ⟨wr.heap.size,0,none⟩=some (.slice pya nyv kya)∧W3.cell? ⟨wr.heap.size,1,none⟩=some (.slice pyb nyl kyb)from by rw [hW3];exact⟨by go_simp,by go_simp⟩)
     have HLIT:=Lib.hid (show SliceOf (Rep.slice Rep.val) (W3.alloc (.cells #[.slice pxa nxv kxa,.slice pya nyv kya] 56)).cell? (.slice (some ⟨W3.heap.size,0,none⟩) 2 2) [xv,yv]from by
      have h1:=HG0W.out.ext ((on_sub _ _).trans (XW.out.trans X3.out).full)
      have h2:=G2.out.ext X3.out.full
      have h3:=HNXV.out
      have h4:=HNYV.out
      subst h3 h4
      exact lit2V h1 h2)
     rw [←hW3,←h3s]
     have HFL:=Lib.hid (show ([xv,yv]:List (List Val)).flatten=xv++yv from by simp)
     refine(concat_val _ [xv,yv] _ HLIT.out (by rw [HFL.out,List.length_append];have h1:=HFX.out.1;have h2:=HFY.out.1;omega)).mono ?_
     rintro e w4 ⟨v4,rfl,o4,x4⟩
     rw [HFL.out]at o4
     obtain⟨zs,hzs⟩ : ∃z,z=xv++yv:=⟨_,rfl⟩
     rw [←hzs]at o4
     have S4:=Lib.hid (show SliceOf Rep.val (on w4 (since W3)) v4 zs from (o4.fresh flat_val).ext (on_mono _ fun kk _ hkk=>Nat.le_trans ((Ext.refl W3).alloc _).size hkk))
     obtain⟨p4,q4,rfl,-⟩:=o4.slice.form
     obtain⟨nz,hnz⟩ : ∃z,z=zs.length:=⟨_,rfl⟩
     rw [←hnz]at S4 ⊢
     have HZS:=Lib.hid hzs
     have HNZ:=Lib.hid hnz
     have X4:=Lib.hid (show Ext W3 w4 from ((Ext.refl W3).alloc _).trans x4)
     have XA:=Lib.hid (XW.out.trans (X3.out.trans X4.out))
     have q1:=XA.out.at EC.out.1
     have q3:=XA.out.at NC.out.2.2
     have f3:=cell_lt q1
     have f4:=cell_lt q3
     clear hW3 h3s o4 hzs hnz x4 HLIT d0 d1 f1 y0 y1 f0
     go_wp2_with fail
     refine wp_tailQ 8 mixedA (by kernel_rfl) _ rfl ?_
     simp only [List.take_succ_cons,List.take_zero,List.drop_succ_cons,List.drop_zero]
     repeat (go_big_quiet_step (fail))
     refine wpQuiet_nil ?_
     go_wp2_with fail
     refine(isTrueE_any _ q.exprs xp _ zs _ (by have h:=HE.out.ext (X0.out.trans XA.out).drew.full;rw [HNE.out]at h ⊢;exact h) HEL.out (by rw [HNZ.out]at S4 ⊢;exact S4.out.ext ((on_sub _ _).trans (Ext.refl w4).drew.full))).mono ?_
     rintro e w5 ⟨rfl,x5⟩
     rw [←HTR.out]
     have X5:=Lib.hid (show Ext w4 w5 from (Ext.refl w4).drew.trans x5)
     have HT:=Lib.hid (show tr (xv++yv)=tr zs from by rw [HZS.out])
     obtain⟨tb,htb⟩ : ∃t,tr zs=t:=⟨_,rfl⟩
     rw [htb]
     have HTB:=Lib.hid htb
     have XB:=Lib.hid (show Ext wr w5 from X3.out.trans (X4.out.trans X5.out))
     have b0:=XB.out.at YY.out.1
     have b1:=XB.out.at YY.out.2
     have dd0:=(X4.out.trans X5.out).at DD.out.1
     have dd1:=(X4.out.trans X5.out).at DD.out.2
     have f5:=cell_lt b0
     have f6:=cell_lt dd0
     clear htb x5 q1 q3 f3 f4
     cases tb
     ·have HM2:=Lib.hid (show m=joinRow tr (B.take (j+1)) ⟨xv,xl⟩from by rw [HST2.out,if_neg (by rw [HT.out,HTB.out];decide),List.append_nil])
      by_cases hmost:4096<no
      ·have hdm:decide ((4096:Int)<(no:Int))=true:=decide_eq_true (by omega)
       have HWO:=Lib.hid (show WholeOr 4096 (refJ tr W A B) om from by
        have h1:=HEARLY.out (j+1)
        rw [←HM2.out,←HOM.out]at h1
        exact h1 (by rw [←HNO.out];omega))
       clear hmost
       go_wp2_with fail
       go_ret
       exact⟨_,om,rfl,(OM.out.ext XB.out).sliceIn (fun _ _ h=>h) (fun kk hkk=>HTT.out kk (Nat.le_trans HBW.out hkk)),HWO.out,X0.out.trans (XW.out.trans XB.out)⟩
      ·have hdm:decide ((4096:Int)<(no:Int))=false:=decide_eq_false (by omega)
       clear hmost
       go_wp2_with fail
       go_roundg (nB - (j+1))
       case measure=>omega
       case rel=>exact⟨j+1,_,m,by omega,rfl,by go_num,rfl,by rw [HNM.out],HNE2.out,(by show OwnOf _ _ _ _ _ _ _;rw [←HOM.out];exact OM.out.ext XB.out),HM2.out,XW.out.trans XB.out,⟨b0,b1⟩⟩
     ·go_wp2_with fail
      refine(merge_lineage _ _ xl yl _ (HG1W.out.ext ((on_sub _ _).trans (XW.out.trans XB.out).full)) (G3.out.ext XB.out.full) (by have:=HFX.out.2;omega) (by have:=HFY.out.2;omega)).mono ?_
      rintro e w6 ⟨v6,rfl,s6,x6⟩
      obtain⟨ls,hls⟩ : ∃z,z=mergeL xl yl:=⟨_,rfl⟩
      rw [←hls]at s6
      obtain⟨p6,q6,rfl,-⟩:=s6.form
      obtain⟨nl,hnl⟩ : ∃z,z=ls.length:=⟨_,rfl⟩
      rw [←hnl]at s6 ⊢
      have S6:=Lib.hid s6
      have HLS:=Lib.hid hls
      have X6:=Lib.hid x6
      have XC:=Lib.hid (show Ext wr w6 from XB.out.trans x6)
      have OA:=Lib.hid (OM.out.ext (XC.out.alloc (.cells #[.slice p4 nz q4,.slice p6 nl q6] 58)))
      have XD:=Lib.hid ((XW.out.trans XC.out).alloc (.cells #[.slice p4 nz q4,.slice p6 nl q6] 58))
      have B1:om.length+1≤maxLen:=by rw [←HNO.out];unfold maxLen;omega
      have B2:(om.length+1)*48≤140737488355328:=by rw [←HNO.out];omega
      have HBB:=Lib.hid (And.intro B1 B2)
      have HNY:=Lib.hid (show Rep.row.holds (on (w6.alloc (.cells #[.slice p4 nz q4,.slice p6 nl q6] 58)) (avoid T (.slice pu no cu))) [.slice p4 nz q4,.slice p6 nl q6] ⟨zs,ls⟩from by
       have hs1:Sub (on w4 (since W3)) (on (w6.alloc (.cells #[.slice p4 nz q4,.slice p6 nl q6] 58)) (avoid T (.slice pu no cu))) :=
        (((X5.out.trans X6.out).alloc _).sub _).trans (sub_newT (fun kk hkk=>HTT.out kk (Nat.le_trans (Nat.le_trans HBW.out (XW.out.trans X3.out).size) hkk)) fun kk hkk=>Nat.lt_of_lt_of_le (OM.out.lt kk hkk).2 X3.out.size)
       have hs2:Sub (on w6 (since w5)) (on (w6.alloc (.cells #[.slice p4 nz q4,.slice p6 nl q6] 58)) (avoid T (.slice pu no cu))) :=
        (((Ext.refl w6).alloc _).sub _).trans (sub_newT (fun kk hkk=>HTT.out kk (Nat.le_trans (Nat.le_trans HBW.out (XW.out.trans XB.out).size) hkk)) fun kk hkk=>Nat.lt_of_lt_of_le (OM.out.lt kk hkk).2 XB.out.size)
       exact⟨_,_,rfl,S4.out.ext hs1,S6.out.ext hs2⟩)
      replace b0:=X6.out.at b0
      replace b1:=X6.out.at b1
      replace f5:=cell_lt b0
      have HF5:=Lib.hid (show bx<w6.heap.size from f5)
      clear B1 B2 s6 hls hnl x6 dd0 dd1 f6
      go_wp2_with (at_builtin;go_loud (refine wpList_append_one Rep.row T rfl _ _ 40 rfl W0.heap.size 58 i0 _ 48 Tryz.underlying40 hi hz0 hz1 hz2 rfl (by decide) (.slice pu no cu) om rfl (by exact OA.out) ⟨w6.heap.size,0,none⟩ 1 ⟨zs,ls⟩ [.slice p4 nz q4,.slice p6 nl q6] rfl (by exact HNY.out) (by exact cells_new w6 [.slice p4 nz q4,.slice p6 nl q6] _) HBB.out.1 HBB.out.2 (by exact XD.out.size) ?_))
      intro g cap9 w7 own gr hat
      have X7:=Lib.hid (show Ext W0 w7 from XD.out.grownNew gr OM.out.base)
      have XE:=Lib.hid ((Ext.refl w6).alloc (.cells #[.slice p4 nz q4,.slice p6 nl q6] 58))
      have hne7 : ∀kk,(Value.slice (some ⟨g,0,none⟩) (no+1) cap9).ownBlock=some kk→kk≠bx:=fun kk hkk=>by
       injection hkk with hkk
       subst hkk
       rcases hat with h | h
       ·exact HNE2.out _ h
       ·have h1:=XE.out.size
        have h2:=HF5.out
        intro e
        replace e:g=bx:=e
        rw [e]at h
        first
          |omega
          |(simp at h;omega)
      have u0:=cell_grown gr (XE.out.at b0) HNE2.out
      have u1:=cell_grown gr (XE.out.at b1) HNE2.out
      have hl7:om.length+1=no+1:=by rw [HNO.out]
      rw [hl7]at own ⊢
      have OW7:=Lib.hid own
      have HNE7:=Lib.hid hne7
      have HM7:=Lib.hid (show m ++ [(⟨zs,ls⟩:Row)]=joinRow tr (B.take (j+1)) ⟨xv,xl⟩from by rw [HST2.out,if_pos (by rw [HT.out,HTB.out]),HZS.out,HLS.out];rfl)
      have hOM7:o++(m ++ [(⟨zs,ls⟩:Row)])=om ++ [⟨zs,ls⟩]:=by rw [←List.append_assoc,←HOM.out]
      have HOM7:=Lib.hid hOM7
      have U0:=Lib.hid (And.intro u0 u1)
      clear own gr hat hne7 hl7 b0 b1 f5 hOM7 u0 u1
      by_cases hmost:4096<no+1
      ·have hdm:decide ((4096:Int)<((no+1:Nat):Int))=true:=decide_eq_true (by omega)
       have hdm2:decide ((4096:Int)<(no:Int)+1)=true:=decide_eq_true (by omega)
       have HWO:=Lib.hid (show WholeOr 4096 (refJ tr W A B) (om ++ [⟨zs,ls⟩])from by
        have h1:=HEARLY.out (j+1)
        rw [←HM7.out,HOM7.out]at h1
        exact h1 (by rw [List.length_append,List.length_singleton,←HNO.out];omega))
       clear hmost
       go_wp2_with fail
       go_ret
       exact⟨.slice (some ⟨g,0,none⟩) (no+1) cap9,om ++ [⟨zs,ls⟩],rfl,OW7.out.sliceIn (fun _ _ h=>h) (fun kk hkk=>HTT.out kk (Nat.le_trans HBW.out hkk)),HWO.out,X0.out.trans X7.out⟩
      ·have hdm:decide ((4096:Int)<((no+1:Nat):Int))=false:=decide_eq_false (by omega)
       have hdm2:decide ((4096:Int)<(no:Int)+1)=false:=decide_eq_false (by omega)
       clear hmost
       go_wp2_with fail
       go_roundg (nB - (j+1))
       case measure=>omega
       case rel=>exact⟨j+1,_,m ++ [(⟨zs,ls⟩:Row)],by omega,rfl,by go_num,rfl,by rw [List.length_append,List.length_singleton,←HNM.out];go_num,HNE7.out,(by show OwnOf _ _ _ _ _ _ _;rw [HOM7.out];exact OW7.out),HM7.out,X7.out,U0.out⟩
    ·have hjB:j=nB:=by omega
     have hd2 : ¬(j:Int)<(nB:Int):=by omega
     have HMF:=Lib.hid (show m=joinRow tr B ⟨xv,xl⟩from by have h:=HM.out;rwa [hjB,HNB.out,List.take_length]at h)
     clear hjB hlt2 hj HM
     have s0:=XW.out.at NC.out.1
     have f7:=cell_lt s0
     by_cases hm0:m = []
     ·subst hm0
      rw [List.append_nil]at OM
      have hl0:([]:List Row).length=0:=rfl
      rw [hl0]
      by_cases hk5:xk=5
      ·have dK:((5:Int)==5)=true:=rfl
       subst hk5
       have HR1:=Lib.hid (show refJ1 tr W B ⟨xv,xl⟩ = [⟨xv++List.replicate nc nV,xl⟩]from by
        unfold refJ1
        rw [←HMF.out,HWW.out,if_pos rfl,if_pos (by omega),Int.toNat_natCast]
        rfl)
       obtain⟨wm,rfl⟩ : ∃z,z=wr:=⟨wr,rfl⟩
       have t0:=XW.out.at EC.out.2.1
       have t1:=XW.out.at EC.out.2.2.2.2
       have t2:=XW.out.at NC.out.2.1
       have f8:=cell_lt t0
       have f9:=cell_lt t1
       have f10:=cell_lt t2
       clear hl0
       go_wp2_with fail
       refine wp_tailQ 9 mixedA (by kernel_rfl) _ rfl ?_
       simp only [List.take_succ_cons,List.take_zero,List.drop_succ_cons,List.drop_zero]
       repeat (go_big_quiet_step (fail))
       refine wpQuiet_nil ?_
       go_wp2_with (at_make;go_loud (refine wpList_make_full _ rfl _ _ 56 rfl wm.heap.size 61 i1 _ 3 Tryz.underlying56 hi1 hz10 hz11 .i64 .i64 _ _ nc rfl rfl rfl rfl (by rw [hz12];omega) (by unfold maxLen;omega) (by simp) ?_))
       intro w8 own8 gr8
       have X8:=Lib.hid (show Ext wm w8 from ext_grown (Ext.refl wm).drew gr8 (fun kk hkk=>by cases hkk))
       obtain⟨nb,hnb⟩ : ∃z,z=wm.heap.size:=⟨_,rfl⟩
       have hnul:SliceOf Rep.val w8.cell? (.slice (some ⟨wm.heap.size,0,none⟩) nc nc) (List.replicate nc nV):=by
        have hval:Rep.val.holds w8.cell? [.int .i64 0,.int .i64 0,.string ByteArray.empty] nV:=⟨rfl,ok_nV⟩
        have h:OwnOf Rep.val w8 (fun _=>True) wm.heap.size 61 (.slice (some ⟨wm.heap.size,0,none⟩) nc nc) (List.replicate nc nV):=⟨_,(rep_replicate hval nc).flatView flat_val,by rw [List.length_replicate,←nulls_flat];exact own8⟩
        exact h.slice
       try rw [←hnb]at hnul
       have HNUL:=Lib.hid hnul
       try rw [←hnb]
       have v0:=X8.out.at y0
       have v1:=X8.out.at y1
       have f11:=cell_lt v0
       clear own8 gr8 hnul hnb y0 y1 f0 t0 t1 t2 f8 f9 f10 s0 f7
       go_wp2_with fail
       have HLV:=Lib.hid (show SliceOf (Rep.slice Rep.val) (w8.alloc (.cells #[.slice pxa nxv kxa,.slice (some ⟨nb,0,none⟩) nc nc] 56)).drew.cell? (.slice (some ⟨w8.heap.size,0,none⟩) 2 2) [xv,List.replicate nc nV]from by
        have h1:=HG0W.out.ext ((on_sub _ _).trans (XW.out.trans X8.out).full)
        have h2:=HNUL.out
        have h3:=HNXV.out
        subst h3
        have h4:=slice_lit (Rep.slice Rep.val) w8 [.slice pxa xv.length kxa,.slice (some ⟨nb,0,none⟩) nc nc] 56 [[.slice pxa xv.length kxa],[.slice (some ⟨nb,0,none⟩) nc nc]] [xv,List.replicate nc nV] rfl ⟨⟨_,rfl,h1.ext ((Ext.refl w8).alloc _).full⟩,⟨_,rfl,h2.ext ((Ext.refl w8).alloc _).full⟩,trivial⟩ (by simp [maxLen])
        exact h4.ext (Ext.refl _).drew.full)
       obtain⟨zn,hzn⟩ : ∃z,z=(xv++List.replicate nc nV).length:=⟨_,rfl⟩
       have HZN:=Lib.hid hzn
       have HFL:=Lib.hid (show ([xv,List.replicate nc nV]:List (List Val)).flatten=xv++List.replicate nc nV from by simp)
       have hS0:Ext W0 w8.drew∧w8.drew.cell? ⟨bx,0,none⟩=some (.slice pxa nxv kxa)∧w8.drew.cell? ⟨bx,1,none⟩=some (.slice pxb nxl kxb):=⟨(XW.out.trans X8.out).drew,v0,v1⟩
       obtain⟨pu,cu,hu,_⟩:=OM.out.slice.form
       obtain⟨no,hno⟩ : ∃z,z=o.length:=⟨_,rfl⟩
       rw [←hno]at hu
       subst hu
       have HNO:=Lib.hid hno
       have hnoB:no≤20000000:=by have:=HOL.out;omega
       have B1:o.length+1≤maxLen:=by rw [←hno];unfold maxLen;omega
       have B2:(o.length+1)*48≤140737488355328:=by rw [←hno];omega
       have HUL:=Lib.hid (show ∀x,(Value.slice pu no cu).ownBlock=some x→W0.heap.size≤x∧x<wm.heap.size∧x≠bx from fun x hx=>⟨(OM.out.lt x hx).1,(OM.out.lt x hx).2,HNE2.out x hx⟩)
       clear hzn hno v0 v1 f11
       go_region_held3 (fun w'=>Ext W0 w'∧w'.cell? ⟨bx,0,none⟩=some (.slice pxa nxv kxa)∧w'.cell? ⟨bx,1,none⟩=some (.slice pxb nxl kxb))
        (first |with_reducible assumption | with_reducible exact keepE2 (by assumption) x7 | exact keepE2 hS0 ((Ext.refl w8).alloc _).drew.ofDrew | with_reducible exact keepE2 (by assumption) ((Ext.refl _).alloc _) | with_reducible exact K8)
        (first
          |(go_at_call 89;refine(concat_val _ [xv,List.replicate nc nV] _ HLV.out (by rw [HFL.out,List.length_append,List.length_replicate];have:=HFX.out.1;omega)).mono ?_;rintro e w7 ⟨v7,rfl,o7,x7⟩;rw [HFL.out]at o7;have S7:=Lib.hid (o7.fresh flat_val);obtain⟨q6,j6,rfl,-⟩:=o7.slice.form;rw [←HZN.out]at S7 ⊢;have X7:=Lib.hid (show Ext w8 w7 from ((Ext.refl w8).alloc _).drew.trans x7);have K7:Ext W0 w7∧w7.cell? ⟨bx,0,none⟩=some (.slice pxa nxv kxa)∧w7.cell? ⟨bx,1,none⟩=some (.slice pxb nxl kxb):=keepE2 hS0 (((Ext.refl w8).alloc _).drew.ofDrew.trans x7);clear o7)
          |(refine step_append_one Rep.row T rfl _ _ 40 rfl W0.heap.size 58 i0 _ 48 Tryz.underlying40 hi hz0 hz1 hz2 rfl (by decide) (.slice pu no cu) o rfl (by exact OM.out.ext ((X8.out.trans X7.out).alloc _)) ⟨_,0,none⟩ 1 ⟨xv++List.replicate nc nV,xl⟩ [.slice q6 zn j6,.slice pxb nxl kxb] rfl (by exact⟨_,_,rfl,S7.out.ext ((on_mono w7 fun x _ hx=>⟨fun e=>by(have h1:=(HUL.out x e.symm).2.1;have h2:=X8.out.size;simp at hx;omega),HTT.out x (by(have h1:=HBW.out;have h2:=XW.out.size;have h3:=X8.out.size;simp at hx;omega))⟩).trans (((Ext.refl w7).alloc _).sub _)),HG1W.out.ext (old_allT (XW.out.trans ((X8.out.trans X7.out).alloc _)) (fun x hx=>(HUL.out x hx).1))⟩) (by exact cells_new _ [.slice q6 zn j6,.slice pxb nxl kxb] _) B1 B2 (by exact(XW.out.trans ((X8.out.trans X7.out).alloc (.cells [.slice q6 zn j6,.slice pxb nxl kxb].toArray 58))).size) ?_;intro g8 cap8 w9 own9 gr9 hg9;have X7a:=(X8.out.trans X7.out).alloc (.cells [.slice q6 zn j6,.slice pxb nxl kxb].toArray 58);have K8:Ext W0 w9∧w9.cell? ⟨bx,0,none⟩=some (.slice pxa nxv kxa)∧w9.cell? ⟨bx,1,none⟩=some (.slice pxb nxl kxb):=⟨ext_grown (XW.out.trans X7a) gr9 (fun x hx=>(HUL.out x hx).1),cell_grown gr9 (((Ext.refl w7).alloc _).at K7.2.1) (fun x hx=>(HUL.out x hx).2.2),cell_grown gr9 (((Ext.refl w7).alloc _).at K7.2.2) (fun x hx=>(HUL.out x hx).2.2)⟩))
       all_goals
        have X9:=Lib.hid (show Ext W0 w9 from ext_grown (XW.out.trans X7a) gr9 (fun x hx=>(HUL.out x hx).1))
        have OW9:=Lib.hid own9
        have HO9:=Lib.hid (show o ++ [(⟨xv++List.replicate nc nV,xl⟩:Row)]=refJ tr W (A.take (k+1)) B from by rw [HST.out,HR1.out])
        clear own9 gr9 hg9 K8 K7 X7a hS0 x7
        go_wp2_with fail
        go_roundg (nA - (k+1))
        case measure=>omega
        case rel=>exact⟨k+1,_,o ++ [(⟨xv++List.replicate nc nV,xl⟩:Row)],by omega,rfl,by go_num,rfl,OW9.out,HO9.out,X9.out⟩
      ·have dK:(xk==5)=false:=by simp [hk5]
       have HO6:=Lib.hid (show o=refJ tr W (A.take (k+1)) B from by
        rw [HST.out]
        unfold refJ1
        rw [←HMF.out,HWW.out,if_neg hk5,if_neg (by decide),List.append_nil,List.append_nil])
       clear hk5 hl0
       go_wp2_with fail
       go_roundg (nA - (k+1))
       case measure=>omega
       case rel=>exact⟨k+1,_,o,by omega,rfl,by go_num,rfl,OM.out,HO6.out,XW.out⟩
     ·have hm1:((m.length:Int)==0)=false:=by simp [hm0]
      have HO6:=Lib.hid (show o++m=refJ tr W (A.take (k+1)) B from by
       rw [HST.out]
       unfold refJ1
       rw [←HMF.out]
       have hz:padOf W.toNat m (⟨xv,xl⟩:Row) = []:=by
        unfold padOf
        rw [if_neg (by simpa using hm0)]
       rw [hz]
       split <;> rw [List.append_nil])
      clear hm0
      go_wp2_with fail
      go_roundg (nA - (k+1))
      case measure=>omega
      case rel=>exact⟨k+1,_,o++m,by omega,rfl,by go_num,rfl,OM.out,HO6.out,XW.out⟩
  ·have hkA:k=nA:=by omega
   have hd : ¬(k:Int)<(nA:Int):=by omega
   have HF:=Lib.hid (show o=refJ tr W A B from by have h:=HO.out;rwa [hkA,HNA.out,List.take_length]at h)
   clear hkA
   go_wp2_with fail
   go_ret
   exact⟨u,rfl,o,OW.out.sliceIn (fun _ _ h=>h) (fun kk hkk=>HTT.out kk (Nat.le_trans HBW.out hkk)),⟨fun _=>HF.out,fun h=>by rw [HF.out];exact h⟩,X0.out.trans X.out⟩
end Go.Proofs.YtombmdaohcjokaaGreatDoor
