/- joined texts of a proof: RefL, RefK -/
import Derived.Test.YtkddkbpoefidpaaGreatDoorKG18
import Derived.Test.YtkddkbpoefidpaaGreatDoorKG17
import Derived.Test.YtkddkbpoefidpaaGreatDoorKG01
namespace Go.Proofs.YtkddkbpoefidpaaGreatDoor
open Go.RowKit
theorem holeA_down {α:Type} {l:List α} {m:Nat} {x:α} (hm:m<l.length):(l.take (m+1)++x::l.drop (m+1)).set (m+1) l[m]=l.take m++l[m]::l.drop m:=by
 have e1:m+1 - (l.take (m+1)).length=0:=by simp;omega
 rw [List.set_append_right _ _ (by simp;omega),e1,List.set_cons_zero,List.take_succ_eq_append_getElem hm,List.append_assoc,List.drop_eq_getElem_cons (i:=m) hm]
 rfl
theorem holeA_get {α:Type} {l:List α} {m:Nat} {x:α} (hm:m<l.length):(l.take (m+1)++x::l.drop (m+1))[m]'(by simp;omega)=l[m]:=by
 rw [List.getElem_append_left (by simp;omega),List.getElem_take]
theorem holeA_fill {α:Type} {l:List α} {j:Nat} {x p:α} (hj:j≤l.length):(l.take j++x::l.drop j).set j p=l.take j++p::l.drop j:=by
 have e1:j - (l.take j).length=0:=by simp;omega
 rw [List.set_append_right _ _ (by simp;omega),e1,List.set_cons_zero]
def perLess (p q:Per):Bool:=decide (p.from_<q.from_)||(decide (p.from_=q.from_)&&decide (p.to_<q.to_))
theorem perLess_cmp (p q:Per):perLess p q=true↔cmpPer2 p q<0:=by
 unfold perLess cmpPer2 cmpI
 simp only [Bool.or_eq_true,Bool.and_eq_true,decide_eq_true_eq]
 (repeat' split) <;> omega
theorem perLess_le {p q:Per} (h : ¬perLess p q=true):cmpPer2 q p≤0:=by
 have h1:=ord_per2.anti p q
 have h2 : ¬cmpPer2 p q<0:=fun g=>h ((perLess_cmp p q).2 g)
 omega
theorem ins_sorted {o:List Per} {p:Per} {j:Nat} (hs:o.Pairwise fun a b=>cmpPer2 a b≤0) (hj:j≤o.length) (hlo : ∀h:0<j,¬perLess p (o[j - 1]'(by omega))=true) (hhi : ∀m (hm:m<o.length),j≤m→perLess p o[m]=true) :
  o.take j++p::o.drop j=sortBy cmpPer2 (o ++ [p]):=by
 refine sortBy_unique ord_per2 ?_ ?_
 ·refine List.Perm.trans List.perm_middle ?_
  rw [List.take_append_drop]
  exact(List.perm_append_singleton p o).symm
 ·have h1 : ∀q∈o.drop j,cmpPer2 p q≤0:=fun q hq=>by
   obtain⟨m,hm,rfl⟩:=List.getElem_of_mem hq
   rw [List.getElem_drop]
   rw [List.length_drop]at hm
   have:=(perLess_cmp _ _).1 (hhi (j+m) (by omega) (by omega))
   omega
  have h2 : ∀q∈o.take j,cmpPer2 q p≤0:=fun q hq=>by
   obtain⟨m,hm,rfl⟩:=List.getElem_of_mem hq
   rw [List.getElem_take]
   rw [List.length_take]at hm
   have hl:=perLess_le (hlo (by omega))
   by_cases e:m=j - 1
   ·subst e;exact hl
   ·have h3:=List.pairwise_iff_getElem.1 hs m (j - 1) (by omega) (by omega) (by omega)
    exact ord_per2.le_tr _ _ _ h3 hl
  rw [←List.take_append_drop j o]at hs
  obtain⟨g1,g2,g3⟩:=List.pairwise_append.1 hs
  refine List.pairwise_append.2 ⟨g1,List.pairwise_cons.2 ⟨h1,g2⟩,fun a ha b hb=> ?_⟩
  rcases List.mem_cons.1 hb with rfl | hb
  ·exact h2 a ha
  ·exact g3 a ha b hb
theorem sort_step2 (o ns:List Per) (p:Per):sortBy cmpPer2 (sortBy cmpPer2 (o++ns) ++ [p])=sortBy cmpPer2 (o++(ns ++ [p])):=by
 refine sortBy_unique ord_per2 ?_ (sortBy_pair ord_per2 _)
 refine(sortBy_perm _ _).trans ?_
 rw [←List.append_assoc]
 exact(sortBy_perm _ _).append_right _
theorem cntAt_take (l:List Tup) (x:Int) (k:Nat) (h:k<l.length):cntAt (l.take (k+1)) x=cntAt (l.take k) x+if (validB l[k].from_ l[k].to_&&decide (l[k].from_≤x)&&decide (x<l[k].to_))=true then 1 else 0:=by
 rw [←sliceRows_len,←sliceRows_len,List.take_succ_eq_append_getElem h,sliceRows_append,List.length_append]
 congr 1
 unfold sliceRows
 rw [List.filter_cons,List.filter_nil]
 show (List.map _ (if (validB l[k].from_ l[k].to_&&decide (l[k].from_≤x)&&decide (x<l[k].to_))=true then [l[k]]else [])).length=_
 split <;> rfl
theorem OwnOf.put2 {w:World} {S:Nat→Prop} {base:Nat} {e:TypeId} {g cap n i:Nat} {xs:List Per} {x:Per} (h:OwnOf Rep.per w S base e (.slice (some ⟨g,0,none⟩) n cap) xs) (hn:n=xs.length∧i<xs.length) (hx:xs[i]?=some x) (y:Per) (hy:okI y.from_∧okI y.to_) :
  OwnOf Rep.per ((w.setCell ⟨g,i*2,none⟩ (.int .i64 y.from_)).setCell ⟨g,i*2+1,none⟩ (.int .i64 y.to_)) S base e (.slice (some ⟨g,0,none⟩) n cap) (xs.set i y) ∧
   Chg (fun k=>k=g) w ((w.setCell ⟨g,i*2,none⟩ (.int .i64 y.from_)).setCell ⟨g,i*2+1,none⟩ (.int .i64 y.to_)):=by
 obtain⟨rfl,hi⟩:=hn
 obtain⟨yf,yt⟩:=y
 have one : ∀(w:World) (zs:List Per) (r:Nat) (u:Value) (z z':Per),OwnOf Rep.per w S base e (.slice (some ⟨g,0,none⟩) xs.length cap) zs→zs.length=xs.length→zs[i]?=some z→r<2→(okI z'.from_∧okI z'.to_)→(perEnc z).set r u=perEnc z'→OwnOf Rep.per (w.setCell ⟨g,i*2+r,none⟩ u) S base e (.slice (some ⟨g,0,none⟩) xs.length cap) (zs.set i z'):=by
  intro w zs r u z z' ho hl hz hr hok hset
  have h1:=OwnOf.store flat_per (by rw [hl];exact ho) i r (by omega) hr u z' (fun cs hcs=>by
   obtain⟨rfl,_⟩:=hcs
   have:zs[i]=z:=by rw [List.getElem?_eq_getElem (by omega)]at hz;injection hz
   rw [this]
   exact⟨hset,hok⟩)
  rw [hl]at h1
  exact h1.1
 have hok : ∀z∈xs,okI z.from_∧okI z.to_:=by
  obtain⟨css,h1,_⟩:=h
  intro z hz
  obtain⟨m,hm,rfl⟩:=List.getElem_of_mem hz
  obtain⟨d,⟨_,g1⟩,_⟩:=h1.at m hm
  exact g1
 have hxo:=hok x (List.mem_of_getElem? hx)
 have h1:=one _ xs 0 (.int .i64 yf) x ⟨yf,x.to_⟩ h rfl hx (by omega) ⟨hy.1,hxo.2⟩ rfl
 have h2:=one _ _ 1 (.int .i64 yt) ⟨yf,x.to_⟩ ⟨yf,yt⟩ h1 (by simp) (by rw [List.getElem?_set_self (by omega)]) (by omega) hy rfl
 rw [List.set_set]at h2
 exact⟨h2,((Chg.refl (fun k=>k=g) w).setCell (.inl rfl) _).setCell (.inl rfl) _⟩
end Go.Proofs.YtkddkbpoefidpaaGreatDoor
namespace Go.Proofs.YtkddkbpoefidpaaGreatDoor
open Go.RowKit
def cntsOf (P:List Int) (l:List Tup) (k:Nat):List Int:=(List.range k).map fun j=>(cntAt l P[j]! : Int)
theorem cntsOf_len (P:List Int) (l:List Tup) (k:Nat):(cntsOf P l k).length=k:=by unfold cntsOf;simp
theorem cntsOf_snoc (P:List Int) (l:List Tup) (k:Nat):cntsOf P l (k+1)=cntsOf P l k ++ [(cntAt l P[k]! : Int)]:=by
 unfold cntsOf
 rw [List.range_succ,List.map_append]
 rfl
theorem cntsOf_get (P:List Int) (l:List Tup) (k j:Nat) (h:j<(cntsOf P l k).length):(cntsOf P l k)[j]=(cntAt l P[j]! : Int):=by
 simp [cntsOf]
theorem cntAt_le (l:List Tup) (x:Int):cntAt l x≤l.length:=by rw [←sliceRows_len];unfold sliceRows;rw [List.length_map];exact List.length_filter_le _ _
theorem keepL2 {W wa wb:World} {b1 o1 o2:Nat} {v1 v2:Value} {row:Option Nat}
  (h:Ext W wa∧wa.cell? ⟨b1,o1,none⟩=some v1∧wa.cell? ⟨b1,o2,none⟩=some v2) (gr:wa.grownBy wb row) (hr : ∀k,row=some k→W.heap.size≤k) (hb : ∀k,row=some k→k≠b1) :
  Ext W wb∧wb.cell? ⟨b1,o1,none⟩=some v1∧wb.cell? ⟨b1,o2,none⟩=some v2 :=
 ⟨Below.grown h.1 gr h.1.size hr,gr.cell h.2.1 (fun e=>hb _ e.symm rfl),gr.cell h.2.2 (fun e=>hb _ e.symm rfl)⟩
set_option maxRecDepth 100000 in
set_option maxHeartbeats 8000000 in
theorem refLevels_any (v:Value) (l:List Tup) (w:World) (hv:SliceOf Rep.tup w.cell? v l) (hl:l.length≤20000) (hpl:(pts l).length≤1000) :
  Calls Tryz.prog 121 #[v] w fun e w'=> ∃v',e = .returned v'∧SliceOf Rep.per (on w' (since w)) v' (refLevels l)∧Ext w w':=by
 obtain⟨i0,hi,hz0,hz1,hz2⟩:=info_parts info_ints
 obtain⟨i1,hi1,hz10,hz11,hz12⟩:=info_parts info_per
 obtain⟨p,cap,rfl,hc1,hc2,hp⟩:=hv.form
 obtain⟨N,hN⟩ : ∃N,N=l.length:=⟨_,rfl⟩
 have HV:=Lib.hid hv
 rw [←hN]at HV ⊢
 have HN:=Lib.hid hN
 have HP:=Lib.hid hp
 have hNl:N≤20000:=by omega
 have HPL:=Lib.hid hpl
 clear hv hN hp hc1 hc2 hl hpl
 have mixed:=mixedOrd
 go_enter Tryz.func121,Tryz.ntmps121
 go_wp2_with fail
 refine(ref_bounds _ l _ HV.out (by have:=HN.out;omega)).mono ?_
 rintro e w1 ⟨u1,rfl,t1,x1⟩
 obtain⟨P,hP⟩ : ∃P,P=pts l:=⟨_,rfl⟩
 rw [←hP]at t1
 have HPP:=Lib.hid hP
 have hML:P.length≤1000:=by rw [hP];exact HPL.out
 obtain⟨bp,cp,rfl,_,_,hpp⟩:=t1.form
 have HPF:=Lib.hid hpp
 have T1:=Lib.hid t1
 have X1:=Lib.hid x1
 have HOKP:=Lib.hid (show ∀x∈P,okI x from fun x hx=>t1.ints x hx)
 have T1B:=Lib.hid (show ∀q oo,bp=some ⟨q,oo,none⟩→0<P.length→q<w1.heap.size from fun q oo hq h0=>by
  subst hq
  exact cell_lt (int_at t1 0 h0).1)
 obtain⟨M,hM⟩ : ∃M,M=P.length:=⟨_,rfl⟩
 rw [←hM]at T1 HPF hML ⊢
 have HM:=Lib.hid hM
 clear t1 x1 hP hM hpp
 go_wp2_with fail
 go_loopg [4,5] M (fun gk vc vi wr=> ∃(k:Nat) (u:Value),k≤M∧(0<k→k<M)∧gk=M - k∧vi = .int .i64 k∧u=vc∧Hid (OwnOf Rep.int wr (fun _=>True) w1.heap.size 3 u (cntsOf P l k))∧Hid (Ext w1 wr))
 case atStart=>exact⟨0,_,by omega,by omega,rfl,rfl,rfl,OwnOf.nil _ _ _ _ _,Ext.refl w1⟩
 case round =>
  obtain⟨k,u,hk,hk2,rfl,rfl,rfl,OC,X2⟩:=hrel
  have hw0:IntKind.i64.wrap ((k:Int)+1)=(k:Int)+1:=by rw [IntKind.wrap_i64];omega
  by_cases hlt:k+1<M
  ·have hd:decide ((k:Int)+1<(M:Int))=true:=by simp;omega
   obtain⟨wo,rfl⟩ : ∃z,z=wr:=⟨wr,rfl⟩
   have hkl:k<P.length:=by have:=HM.out;omega
   obtain⟨bq,op,rfl⟩:=HPF.out (by decide) (by omega)
   have hpv:=T1.out
   rw [HM.out]at hpv
   obtain⟨cp0,_⟩:=int_at hpv k hkl
   have hpk:P[k]! = P[k]:=getElem!_pos P k hkl
   generalize hpe:P[k]=px at cp0 hpk
   have HPK:=Lib.hid hpk
   have CP:=Lib.hid (X2.out.at cp0)
   have hkM:(k:Int)<(M:Int):=by omega
   have hkM2:k<M:=by omega
   clear hpv cp0 hpk hpe
   go_wp2_with fail
   go_loopg [6,28] N (fun gj vn vj wr=> ∃(j n:Nat),j≤N∧gj=N - j∧vj = .int .i64 j∧vn = .int .i64 n∧(n≤j∧Hid (n=cntAt (l.take j) px))∧Hid (Ext wo wr))
   case atStart=>exact⟨0,0,by omega,rfl,rfl,rfl,⟨Nat.le_refl _,rfl⟩,Ext.refl wo⟩
   case round =>
    obtain⟨j,n,hj,rfl,rfl,rfl,⟨hnj,HJ⟩,X3⟩:=hrel
    by_cases hlt2:j<N
    ·have hjl:j<l.length:=by have:=HN.out;omega
     have hd2:decide ((j:Int)<(N:Int))=true:=by simp;omega
     obtain⟨b,o',rfl⟩:=HP.out (by decide) (by omega)
     have hv:=HV.out
     rw [HN.out]at hv
     obtain⟨ta,tb,c0,c1,c2,c3,g0,g1,_,_⟩:=tup_at hv j hjl
     obtain⟨pa,ka,ta',_⟩:=g0.form
     obtain⟨pb,kb,tb',_⟩:=g1.form
     subst ta' tb'
     have hx:=(X1.out.trans X2.out).trans X3.out
     replace c0:=hx.at c0
     replace c1:=hx.at c1
     replace c2:=hx.at c2
     replace c3:=hx.at c3
     have hst:=cntAt_take l px j hjl
     rw [←HJ.out]at hst
     generalize l[j].from_=f at c1 hst
     generalize l[j].to_=t at c2 hst
     generalize l[j].vals.length=na at c0
     generalize l[j].lin.length=nb at c3
     have HST:=Lib.hid hst
     have cpr:=X3.out.at CP.out
     have e0:=cell_lt c0
     have hnN:n+1≤20001:=by omega
     clear hst g0 g1 hv hx
     go_wp2_with fail
     have xn:=(Ext.refl wr).alloc (.cells #[.slice pa na ka,.int .i64 f,.int .i64 t,.slice pb nb kb] 96)
     have d1:(wr.alloc (.cells #[.slice pa na ka,.int .i64 f,.int .i64 t,.slice pb nb kb] 96)).cell? ⟨wr.heap.size,1,none⟩=some (.int .i64 f):=by go_simp
     have d2:(wr.alloc (.cells #[.slice pa na ka,.int .i64 f,.int .i64 t,.slice pb nb kb] 96)).cell? ⟨wr.heap.size,2,none⟩=some (.int .i64 t):=by go_simp
     have d3:=xn.at cpr
     generalize (wr.alloc (.cells #[.slice pa na ka,.int .i64 f,.int .i64 t,.slice pb nb kb] 96))=w8 at xn d1 d2 d3 ⊢
     have hS0:Ext wr w8.drew∧w8.drew.cell? ⟨wr.heap.size,1,none⟩=some (.int .i64 f)∧w8.drew.cell? ⟨wr.heap.size,2,none⟩=some (.int .i64 t)∧w8.drew.cell? ⟨bq,op+k,none⟩=some (.int .i64 px):=⟨xn.drew,d1,d2,d3⟩
     clear c0 c1 c2 c3 d1 d2 d3 xn cpr e0
     go_region_held3 (fun w'=>Ext wr w'∧w'.cell? ⟨wr.heap.size,1,none⟩=some (.int .i64 f)∧w'.cell? ⟨wr.heap.size,2,none⟩=some (.int .i64 t)∧w'.cell? ⟨bq,op+k,none⟩=some (.int .i64 px))
      (first |with_reducible assumption | with_reducible exact keepE3 (by assumption) x9)
      (first |(go_at_call 120;refine(includes_any f t px _).mono ?_;rintro e w9 ⟨rfl,x9⟩) | fail)
     all_goals
      have X9:=Lib.hid (X3.out.trans (And.left ‹Ext wr _∧_›))
      clear hS0
      cases hvb:(validB f t&&decide (f≤px)&&decide (px<t))with
      |true =>
       have HJ2:=Lib.hid (show n+1=cntAt (l.take (j+1)) px from by rw [HST.out,if_pos hvb])
       clear hvb
       go_wp2_with fail
       go_roundg (N - (j+1))
       case measure=>omega
       case rel=>exact⟨j+1,n+1,by omega,rfl,by go_num,by go_num,⟨by omega,HJ2.out⟩,X9.out⟩
      |false =>
       have HJ2:=Lib.hid (show n=cntAt (l.take (j+1)) px from by rw [HST.out,hvb,if_neg (by decide),Nat.add_zero])
       clear hvb
       go_wp2_with fail
       go_roundg (N - (j+1))
       case measure=>omega
       case rel=>exact⟨j+1,n,by omega,rfl,by go_num,rfl,⟨by omega,HJ2.out⟩,X9.out⟩
    ·have hjN:j=N:=by omega
     have hd2 : ¬(j:Int)<(N:Int):=by omega
     have HJF:=Lib.hid (show n=cntAt l P[k]! from by rw [HJ.out,HPK.out,hjN,HN.out,List.take_length])
     have hcl:(cntsOf P l k).length=k:=cntsOf_len P l k
     have hsn:=cntsOf_snoc P l k
     rw [←HJF.out]at hsn
     obtain⟨C,hC⟩ : ∃C,C=cntsOf P l k:=⟨_,rfl⟩
     rw [←hC]at OC hcl hsn
     have HSN:=Lib.hid hsn
     have HCL:=Lib.hid hcl
     have HOKN:=Lib.hid (show okI (n:Int)from by unfold okI;omega)
     have OA:=Lib.hid (OC.out.ext (X3.out.alloc (.cells #[.int .i64 (n:Int)] 3)))
     have XA:=Lib.hid ((X2.out.trans X3.out).alloc (.cells #[.int .i64 (n:Int)] 3))
     have B1:C.length+1≤maxLen:=by rw [hcl];unfold maxLen;omega
     have B2:(C.length+1)*8≤140737488355328:=by rw [hcl];omega
     clear hjN hC hsn hcl
     go_wp2_with (at_builtin;go_loud (refine wpList_append_one Rep.int (fun _=>True) rfl _ _ 24 rfl w1.heap.size 3 i0 _ 8 Tryz.underlying24 hi hz0 hz1 hz2 rfl (by decide) u C rfl (by exact OA.out) ⟨wr.heap.size,0,none⟩ 1 (n:Int) [.int .i64 (n:Int)] rfl ⟨rfl,HOKN.out⟩ (by exact cells_new wr [.int .i64 (n:Int)] _) B1 B2 (by exact XA.out.size) ?_))
     intro g c3 w5 own gr _
     have X5:=Lib.hid (show Ext w1 w5 from XA.out.grownNew gr OC.out.base)
     have O5:=Lib.hid own
     clear own gr
     go_wp2_with fail
     go_roundg (M - (k+1))
     case measure=>omega
     case rel=>exact⟨k+1,_,by omega,by omega,rfl,by go_num,rfl,by show OwnOf _ _ _ _ _ _ _;rw [HSN.out];exact O5.out,X5.out⟩
  ·have hd : ¬(k:Int)+1<(M:Int):=by omega
   have hkM:k=M - 1:=by omega
   obtain⟨wo,rfl⟩ : ∃z,z=wr:=⟨wr,rfl⟩
   have hcs:=OC.out.slice
   have hcl:(cntsOf P l k).length=k:=cntsOf_len P l k
   obtain⟨C,hC⟩ : ∃C,C=cntsOf P l k:=⟨_,rfl⟩
   rw [←hC]at hcs hcl
   obtain⟨pc,cc,hu,_,_,hpc⟩:=hcs.form
   subst hu
   rw [hcl]at hcs hpc ⊢
   have HCS:=Lib.hid hcs
   have HPC:=Lib.hid hpc
   have HC:=Lib.hid hC
   have HKM:=Lib.hid hkM
   have hk1:k≤1000:=by omega
   have hkMl:=Lib.hid (show ∀m,m<k→m+1<M from fun m hm=>by omega)
   have X20:=Lib.hid (X1.out.trans X2.out)
   obtain⟨fc,hfc⟩ : ∃fc:Nat→Nat,fc=fun i=>cntAt l P[i]! := ⟨_,rfl⟩
   have HFC:=Lib.hid hfc
   clear hcs hcl hC hpc OC hk hk2 hkM hfc hlt
   go_wp2_with fail
   clear hd hw0
   go_loopg [9,10] N (fun gk vo vk wr=> ∃(kk:Nat) (u9:Value),(1≤kk∧kk≤N+1)∧gk=N+1 - kk∧vk = .int .i64 kk∧u9=vo∧Hid (OwnOf Rep.per wr (fun _=>True) wo.heap.size 94 u9 (refLev P fc (kk - 1)))∧Hid (Ext wo wr))
   case atStart=>exact⟨1,_,⟨by omega,by omega⟩,by omega,rfl,rfl,OwnOf.nil _ _ _ _ _,Ext.refl wo⟩
   case round =>
    obtain⟨kk,u9,⟨hk1',hkk⟩,rfl,rfl,rfl,O9,X9⟩:=hrel
    by_cases hltk:kk≤N
    ·have hd:decide ((kk:Int)≤(N:Int))=true:=by simp;omega
     obtain⟨wl,rfl⟩ : ∃z,z=wr:=⟨wr,rfl⟩
     obtain⟨j,hj⟩ : ∃j,kk=j+1:=⟨kk - 1,by omega⟩
     have hsn:refLev P fc kk=sortBy cmpPer2 (refLev P fc j++refNorm (lvlSet P fc j (P.length - 1))):=by rw [hj];rfl
     have hol:=refLev_len P fc j
     have hjk:kk - 1=j:=by omega
     rw [hjk]at O9
     have hpw:=refLev_pair P fc j
     have hol2:(refLev P fc j).length≤20000000:=Nat.le_trans hol (Nat.mul_le_mul (by omega:j≤20000) (by have:=HM.out;omega:P.length≤1000))
     generalize refLev P fc j=o at O9 hsn hpw hol2
     have HSN:=Lib.hid hsn
     have HPW:=Lib.hid hpw
     have HOL:=Lib.hid hol2
     have HJ:=Lib.hid hj
     clear hsn hol hjk hpw hol2 hj
     go_wp2_with fail
     go_loopg [11,54] k (fun gm vs vm wr=> ∃(m:Nat) (us:Value),m≤k∧gm=k - m∧vm = .int .i64 m∧us=vs∧Hid (OwnOf Rep.per wr (fun _=>True) wl.heap.size 94 us (lvlSet P fc j m))∧Hid (Ext wl wr))
     case atStart=>exact⟨0,_,by omega,rfl,rfl,rfl,OwnOf.nil _ _ _ _ _,Ext.refl wl⟩
     case round =>
      obtain⟨m,us,hm,rfl,rfl,rfl,OS,XS⟩:=hrel
      by_cases hltm:m<k
      ·have hd2:decide ((m:Int)<(k:Int))=true:=by simp;omega
       obtain⟨bc,oc,rfl⟩:=HPC.out (by decide) (by omega)
       have hcv:=HCS.out
       have hml:m<C.length:=by rw [HC.out,cntsOf_len];exact hltm
       obtain⟨cc0,_⟩:=int_at hcv m hml
       have hcm:C[m]=(fc m:Int):=by
        have h1:=HC.out
        subst h1
        rw [cntsOf_get,HFC.out]
       rw [hcm]at cc0
       have hfcN:fc m≤20000:=by rw [HFC.out];exact Nat.le_trans (cntAt_le l _) (by have:=HN.out;omega)
       replace cc0:=(X9.out.trans XS.out).at cc0
       have hls:lvlSet P fc j (m+1)=lvlSet P fc j m++if j<fc m then [⟨P[m]!,P[m+1]!⟩]else []:=rfl
       have hlen:=lvlSet_len P fc j m
       have hm1:=hkMl.out m hltm
       have hmM:m<M:=by omega
       have hpl1:m<P.length:=by have:=HM.out;omega
       have hpl2:m+1<P.length:=by have:=HM.out;omega
       obtain⟨bq,op,rfl⟩:=HPF.out (by decide) (by omega)
       have hpv:=T1.out
       rw [HM.out]at hpv
       obtain⟨cp0,_⟩:=int_at hpv m hpl1
       obtain⟨cp1,_⟩:=int_at hpv (m+1) hpl2
       rw [getElem!_pos P m hpl1,getElem!_pos P (m+1) hpl2]at hls
       have hox:=HOKP.out P[m] (List.getElem_mem hpl1)
       have hoy:=HOKP.out P[m+1] (List.getElem_mem hpl2)
       have xx:=(X2.out.trans X9.out).trans XS.out
       replace cp0:=xx.at cp0
       replace cp1:=xx.at cp1
       generalize P[m]=px at cp0 hls hox
       generalize P[m+1]=py at cp1 hls hoy
       generalize fc m=c at cc0 hls hfcN
       obtain⟨st,hst⟩ : ∃st,st=lvlSet P fc j m:=⟨_,rfl⟩
       rw [←hst]at OS hls hlen
       have HLS:=Lib.hid hls
       have HLEN:=Lib.hid hlen
       have HOX:=Lib.hid (And.intro hox hoy)
       have CPX:=Lib.hid (And.intro cp0 cp1)
       have hkI:(m:Int)<(k:Int):=by omega
       have eb:=cell_lt cp0
       clear hcv hcm hls hlen hpv hox hoy xx cp0 cp1 hst
       by_cases hc:kk≤c
       ·have hdc:decide ((kk:Int)≤(c:Int))=true:=by simp;omega
        have HIN:=Lib.hid (show lvlSet P fc j (m+1)=st ++ [⟨px,py⟩]from by rw [HLS.out,if_pos (by have:=HJ.out;omega)])
        obtain⟨pu,cu,hu,_⟩:=OS.out.slice.form
        subst hu
        obtain⟨ns_,hns_⟩ : ∃z,z=st.length:=⟨_,rfl⟩
        rw [←hns_]at OS ⊢
        have HNS:=Lib.hid hns_
        have B1:st.length+1≤maxLen:=by have:=HLEN.out;unfold maxLen;omega
        have B2:(st.length+1)*16≤140737488355328:=by have:=HLEN.out;omega
        have hmi:(m:Int)<(M:Int):=by omega
        have hmi2:(m:Int)+1<(M:Int):=by omega
        have hmi3:(0:Int)≤(m:Int)+1:=by omega
        have hmw:IntKind.i64.wrap ((m:Int)+1)=(m:Int)+1:=by rw [IntKind.wrap_i64];omega
        have hS0:Ext wl wr.drew∧wr.drew.cell? ⟨bq,op+m,none⟩=some (.int .i64 px)∧wr.drew.cell? ⟨bq,op+(m+1),none⟩=some (.int .i64 py):=⟨XS.out.drew,CPX.out.1,CPX.out.2⟩
        have HWL:=Lib.hid (show bq<wl.heap.size from Nat.lt_of_lt_of_le (T1B.out bq op rfl (by have:=HM.out;omega)) (X2.out.trans X9.out).size)
        clear hns_
        go_wp2_with fail
        go_region_held3 (fun w'=>Ext wl w'∧w'.cell? ⟨bq,op+m,none⟩=some (.int .i64 px)∧w'.cell? ⟨bq,op+(m+1),none⟩=some (.int .i64 py))
         (first |with_reducible assumption | with_reducible exact keepE2 (by assumption) ((Ext.refl _).alloc _))
         (first
          |    (refine step_append_one Rep.per (fun _=>True) rfl _ _ 129 rfl wl.heap.size 94 i1 _ 16 Tryz.underlying129 hi1 hz10 hz11 hz12 rfl (by decide) (.slice pu ns_ cu) st rfl (by first | exact OS.out.ext ((Ext.refl _).drew.alloc _) | exact OS.out.ext ((Ext.refl _).alloc _).drew) ⟨_,0,none⟩ 1 ⟨px,py⟩ [.int .i64 px,.int .i64 py] rfl ⟨rfl,HOX.out⟩ (cells_new _ [.int .i64 px,.int .i64 py] _) B1 B2 (by first | exact(XS.out.drew.alloc _).size | exact(XS.out.alloc _).drew.size) ?_;intro g9 c9 w9 own9 gr9 _;have K9:=keepL2 (by first | exact keepE2 hS0 ((Ext.refl _).alloc _) | exact hS0) gr9 (fun q hq=>OS.out.base q hq) (fun q hq e=>by have h1:=OS.out.base q hq;have h2:=HWL.out;omega);have OW9:=Lib.hid own9;clear own9)
          |    fail)
        all_goals
         have X12:=Lib.hid K9.1
         clear hS0
         have hl9:st.length+1=ns_+1:=by rw [HNS.out]
         go_wp2_with fail
         go_roundg (k - (m+1))
         case measure=>omega
         case rel=>exact⟨m+1,_,by omega,rfl,by go_num,rfl,by show OwnOf _ _ _ _ _ _ _;rw [HIN.out];exact OW9.out,X12.out⟩
       ·have hdc:decide ((kk:Int)≤(c:Int))=false:=by simp;omega
        have HIN:=Lib.hid (show lvlSet P fc j (m+1)=st from by rw [HLS.out,if_neg (by have:=HJ.out;omega),List.append_nil])
        go_wp2_with fail
        go_roundg (k - (m+1))
        case measure=>omega
        case rel=>exact⟨m+1,_,by omega,rfl,by go_num,rfl,by show OwnOf _ _ _ _ _ _ _;rw [HIN.out];exact OS.out,XS.out⟩
      ·have hmk:m=k:=by omega
       have hd2 : ¬(m:Int)<(k:Int):=by omega
       obtain⟨wn,rfl⟩ : ∃z,z=wr:=⟨wr,rfl⟩
       have hset:lvlSet P fc j m=lvlSet P fc j (P.length - 1):=by rw [hmk,HKM.out,HM.out]
       have hslen:(lvlSet P fc j m).length≤1000:=by have:=lvlSet_len P fc j m;omega
       rw [hset]at OS hslen
       generalize lvlSet P fc j (P.length - 1)=st at OS hslen HSN
       have O9w:=O9.out.ext XS.out
       have HUO:=Lib.hid (fun b hb=>(O9w.lt b hb).2)
       have HSL:=Lib.hid hslen
       obtain⟨pst,cst,hu,_⟩:=OS.out.slice.form
       subst hu
       clear hset hmk hslen
       go_wp2_with fail
       refine(refNormalize_any _ st _ OS.out.slice HSL.out).mono ?_
       rintro e w6 ⟨v6,rfl,s6,x6⟩
       obtain⟨ns,hns⟩ : ∃ns,ns=refNorm st:=⟨_,rfl⟩
       rw [←hns]at s6 HSN
       have hnl:ns.length≤1000:=by rw [hns];exact Nat.le_trans (refNorm_len st) HSL.out
       obtain⟨pn,cn,rfl,_,_,hpn⟩:=s6.form
       obtain⟨Q,hQ⟩ : ∃Q,Q=ns.length:=⟨_,rfl⟩
       rw [←hQ]at s6 hpn hnl ⊢
       have HQ:=Lib.hid hQ
       have HPN:=Lib.hid hpn
       have S6:=Lib.hid (SliceOf.flatOn flat_per (S:=fun b=>(Value.slice pn Q cn).ownBlock=some b) (s6.ext (on_sub _ _)) (fun ad n c e=>by rw [e];rfl))
       have HBN:=Lib.hid (show 0<Q→ ∀b,(Value.slice pn Q cn).ownBlock=some b→wn.heap.size≤b∧b<w6.heap.size from fun h0 b hb=>by
        obtain⟨bn,on_,rfl⟩:=hpn (by decide) h0
        injection hb with hb
        subst hb
        have h1:=(per_at s6 0 (by rw [←hQ];exact h0)).1
        exact⟨(on_some.1 h1).1,cell_lt (on_some.1 h1).2⟩)
       have O6:=Lib.hid (O9w.ext x6)
       have X6:=Lib.hid ((X9.out.trans XS.out).trans x6)
       have hself:sortBy cmpPer2 (o++ns.take 0)=o:=by
        rw [List.take_zero,List.append_nil]
        exact(sortBy_unique ord_per2 (.refl _) HPW.out).symm
       have HSELF:=Lib.hid hself
       clear s6 hns hQ hpn O9w O9 OS XS hself x6
       go_wp2_with fail
       go_loopg [9,79] Q (fun gq vo vq wr=> ∃(q:Nat) (u:Value),q≤Q∧gq=Q - q∧vq = .int .i64 q∧u=vo∧Hid (OwnOf Rep.per wr (fun _=>True) wo.heap.size 94 u (sortBy cmpPer2 (o++ns.take q)))∧Hid (∀b,Value.ownBlock u=some b→0<Q→ ¬(Value.slice pn Q cn).ownBlock=some b)∧Hid (SliceOf Rep.per (on wr fun b=>(Value.slice pn Q cn).ownBlock=some b) (.slice pn Q cn) ns)∧Hid (Ext wo wr)∧Hid (w6.heap.size≤wr.heap.size))
       case atStart=>exact⟨0,_,by omega,rfl,rfl,rfl,by show OwnOf _ _ _ _ _ _ _;rw [HSELF.out];exact O6.out,(fun b hb h0 hs=>by have h1:=HUO.out b hb;have h2:=(HBN.out h0 b hs).1;omega),S6.out,X6.out,Nat.le_refl _⟩
       case round =>
        clear S6 O6 X6
        obtain⟨q,u,hq,rfl,rfl,rfl,OT,HNE,SN,X7,Z7⟩:=hrel
        by_cases hltq:q<Q
        ·have hql:q<ns.length:=by have:=HQ.out;omega
         have hd3:decide ((q:Int)<(Q:Int))=true:=by simp;omega
         have hqI:(q:Int)<(Q:Int):=by omega
         have HBN1:=Lib.hid (fun b hb=>HBN.out (by omega) b hb)
         have HNE1:=Lib.hid (fun b hb=>HNE.out b hb (by omega))
         obtain⟨bn,on_,rfl⟩:=HPN.out (by decide) (by omega)
         have hsv:=SN.out
         rw [HQ.out]at hsv
         obtain⟨c0,c1,r0,r1⟩:=per_at hsv q hql
         replace c0:=(on_some.1 c0).2
         replace c1:=(on_some.1 c1).2
         have hstp:sortBy cmpPer2 (o++ns.take (q+1))=sortBy cmpPer2 (sortBy cmpPer2 (o++ns.take q) ++ [ns[q]]):=by
          rw [sort_step2,List.take_succ_eq_append_getElem hql]
         have hTl:(sortBy cmpPer2 (o++ns.take q)).length≤20001000:=by
          rw [sortBy_length,List.length_append,List.length_take]
          have:=HOL.out
          omega
         have hTp:=sortBy_pair ord_per2 (o++ns.take q)
         obtain⟨T,hT⟩ : ∃T,T=sortBy cmpPer2 (o++ns.take q):=⟨_,rfl⟩
         rw [←hT]at OT hstp hTl hTp
         generalize ns[q]=pp at c0 c1 r0 r1 hstp
         obtain⟨pf,pt⟩:=pp
         dsimp only at c0 c1 r0 r1
         have HSTP:=Lib.hid hstp
         have HTP:=Lib.hid hTp
         have HOKP2:=Lib.hid (And.intro r0 r1)
         obtain⟨pu,cu,hu,_⟩:=OT.out.slice.form
         subst hu
         obtain⟨n,hn⟩ : ∃n,n=T.length:=⟨_,rfl⟩
         have HUL:=Lib.hid (fun b hb=>OT.out.lt b hb)
         rw [←hn]at OT HNE1 HUL hTl ⊢
         have HN2:=Lib.hid hn
         have B1:T.length+1≤maxLen:=by rw [←hn];unfold maxLen;omega
         have B2:(T.length+1)*16≤140737488355328:=by rw [←hn];omega
         have e0:=cell_lt c0
         obtain⟨wq,hwq⟩ : ∃z,z=wr:=⟨wr,rfl⟩
         have hcn:=cells_new (wr.alloc (.cells #[.int .i64 pf,.int .i64 pt] 94)) [.int .i64 pf,.int .i64 pt] 94
         have hsz:(wr.alloc (.cells #[.int .i64 pf,.int .i64 pt] 94)).heap.size=wr.heap.size+1:=by simp
         rw [hsz]at hcn
         have HCN:=Lib.hid hcn
         have XA:=Lib.hid (((Ext.refl wr).alloc (.cells #[.int .i64 pf,.int .i64 pt] 94)).alloc (.cells #[.int .i64 pf,.int .i64 pt] 94))
         have OA:=Lib.hid (OT.out.ext XA.out)
         have EB:=Lib.hid (show ((wr.alloc (.cells #[.int .i64 pf,.int .i64 pt] 94)).alloc (.cells #[.int .i64 pf,.int .i64 pt] 94)).cell? ⟨wr.heap.size,0,none⟩=some (.int .i64 pf)∧((wr.alloc (.cells #[.int .i64 pf,.int .i64 pt] 94)).alloc (.cells #[.int .i64 pf,.int .i64 pt] 94)).cell? ⟨wr.heap.size,1,none⟩=some (.int .i64 pt)from ⟨by go_simp,by go_simp⟩)
         clear hsv hql hstp hTp r0 r1 hT hn hcn hsz hwq
         go_wp2_with (at_builtin;go_loud (refine wpList_append_one Rep.per (fun _=>True) rfl _ _ 129 rfl wo.heap.size 94 i1 _ 16 Tryz.underlying129 hi1 hz10 hz11 hz12 rfl (by decide) (.slice pu n cu) T rfl (by exact OA.out) ⟨wr.heap.size+1,0,none⟩ 1 ⟨pf,pt⟩ [.int .i64 pf,.int .i64 pt] rfl ⟨rfl,HOKP2.out⟩ (by exact HCN.out) B1 B2 (by exact(X7.out.trans XA.out).size) ?_))
         intro g c9 w9 own gr hat
         have HG:=Lib.hid (show wo.heap.size≤g∧g≠wr.heap.size∧g≠bn from by
          rcases hat with h | h
          ·    have h1:=HUL.out g h
               exact⟨h1.1,by omega,fun e=>HNE1.out g h (by rw [e];rfl)⟩
          ·    have h2:=(HBN1.out bn rfl).2
               have h3:=Z7.out
               have h5:=X7.out.size
               try rw [alloc_size,alloc_size]at h
               exact⟨by omega,by omega,by omega⟩)
         have hne1:some wr.heap.size≠(Value.slice pu n cu).ownBlock:=fun e=>by have:=(HUL.out _ e.symm).2;omega
         have KK:=Lib.hid (show w9.cell? ⟨wr.heap.size,0,none⟩=some (.int .i64 pf)∧w9.cell? ⟨wr.heap.size,1,none⟩=some (.int .i64 pt)from ⟨gr.cell EB.out.1 hne1,gr.cell EB.out.2 hne1⟩)
         have SN9:=Lib.hid ((SN.out.ext (XA.out.sub _)).ext (grown_sub gr fun b hb e=>HNE1.out b e.symm hb))
         have X9:=Lib.hid (show Ext wo w9 from ext_grown (X7.out.trans XA.out) gr fun b hb=>(HUL.out b hb).1)
         have Z9:=Lib.hid (Nat.le_trans Z7.out (Nat.le_trans XA.out.size gr.size))
         have hl9:T.length+1=n+1:=by rw [HN2.out]
         rw [hl9]at own ⊢
         have OC0:=Lib.hid (show OwnOf Rep.per w9 (fun _=>True) wo.heap.size 94 (.slice (some ⟨g,0,none⟩) (n+1) c9) (T.take n++(⟨pf,pt⟩:Per)::T.drop n)from by
          have e1:T.take n=T:=by rw [HN2.out,List.take_length]
          have e2:T.drop n = []:=by rw [HN2.out,List.drop_length]
          rw [e1,e2]
          exact own)
         clear own gr hat hne1 hl9 EB SN OA XA HCN HUL OT X7 Z7 HNE HNE1 B1 B2 c0 c1 e0
         generalize wr.heap.size=E at HG KK ⊢
         go_wp2_with fail
         go_loopg [16] n (fun gk vj wr=> ∃(j:Nat) (hole:Per),j≤n∧j=gk∧vj = .int .i64 j∧Hid (OwnOf Rep.per wr (fun _=>True) wo.heap.size 94 (.slice (some ⟨g,0,none⟩) (n+1) c9) (T.take j++hole::T.drop j))∧Hid (∀m (hm:m<T.length),j≤m→perLess ⟨pf,pt⟩ T[m]=true)∧Hid (Ext wo wr)∧Hid (wr.cell? ⟨E,0,none⟩=some (.int .i64 pf)∧wr.cell? ⟨E,1,none⟩=some (.int .i64 pt))∧Hid (SliceOf Rep.per (on wr fun b=>(Value.slice (some ⟨bn,on_,none⟩) Q cn).ownBlock=some b) (.slice (some ⟨bn,on_,none⟩) Q cn) ns)∧Hid (w6.heap.size≤wr.heap.size))
         case atStart=>exact⟨n,_,Nat.le_refl _,rfl,rfl,OC0.out,(fun m hm h=>by have:=HN2.out;omega),X9.out,KK.out,SN9.out,Z9.out⟩
         case round =>
          clear OC0 X9 KK SN9 Z9
          obtain⟨j,hole,hj,rfl,rfl,OC,HHI,X8,KK,SN,HZ8⟩:=hrel
          have hcl:(T.take j++hole::T.drop j).length=n+1:=by simp;have:=HN2.out;omega
          have HFR:=Lib.hid (show ∀m,m<(n+1)*2→wr.frozen? ⟨g,m,none⟩=false from fun m _=>by obtain⟨css,_,q2⟩:=OC.out;rw [hcl]at q2;exact q2.frozenAt m)
          have HCE:=Lib.hid (show ∀m,m<n+1→(∃v,wr.cell? ⟨g,m*2,none⟩=some v)∧(∃v,wr.cell? ⟨g,m*2+1,none⟩=some v)from fun m hm=>by
               have h1:=per_at (by have h:=OC.out.slice;exact h) m (by rw [hcl];exact hm)
               simp only [Nat.zero_add]at h1
               exact⟨⟨_,h1.1⟩,⟨_,h1.2.1⟩⟩)
          have hjz:(j:Int)<((n:Int)+1):=by omega
          have hjT:0<j→j - 1<T.length:=fun h=>by have:=HN2.out;omega
          by_cases hj0:j=0
          ·    have hnz0:decide ((0:Int)<(j:Int))=false:=decide_eq_false (by omega)
               have hnz1:decide (0<j)=false:=decide_eq_false (by omega)
               have hnz3 : ¬ 0<j:=by omega
               have HLOW : ∀h:0<j,¬perLess ⟨pf,pt⟩ (T[j - 1]'(hjT h))=true:=fun h=>absurd h hnz3
               clear hj0
               have HLO:=Lib.hid HLOW
               clear HLOW
               have hput:=OwnOf.put2 (x:=hole) (i:=j) OC.out ⟨by rw [hcl],by rw [hcl];omega⟩ (by rw [List.getElem?_append_right (by simp;omega)];simp [show j - min j T.length=0 by have:=HN2.out;omega]) ⟨pf,pt⟩ HOKP2.out
               have hfin:=Lib.hid (show T.take j++(⟨pf,pt⟩:Per)::T.drop j=sortBy cmpPer2 (o++ns.take (q+1))from by rw [HSTP.out];exact ins_sorted HTP.out (by have:=HN2.out;omega) HLO.out HHI.out)
               rw [holeA_fill (by have:=HN2.out;omega),hfin.out]at hput
               have OF:=Lib.hid hput.1
               have X9:=Lib.hid (Chg.below hput.2 X8.out fun q hq=>by have h1:=HG.out.1;omega)
               have K9:=Lib.hid (And.intro (hput.2.at KK.out.1 (fun e=>HG.out.2.1 e.symm)) (hput.2.at KK.out.2 (fun e=>HG.out.2.1 e.symm)))
               have S9:=Lib.hid (SN.out.chg hput.2 (fun b hb e=>HG.out.2.2 (by injection hb with hb;rw [←e,←hb])))
               have Z9:=Lib.hid (Nat.le_trans HZ8.out hput.2.size)
               clear hput
               have f0:=HFR.out (j*2) (by omega)
               have f1:=HFR.out (j*2+1) (by omega)
               obtain⟨⟨v0,g0⟩,⟨v1,g1⟩⟩:=HCE.out j (by omega)
               have m2:=KK.out.1
               have m3:=KK.out.2
               have ej:=cell_lt g0
               have ek:=cell_lt m2
               have hnz : ¬E=g:=fun e=>HG.out.2.1 e.symm
               have hnz2 : ¬g=E:=HG.out.2.1
               go_wp2_with fail
               go_big_region_o
               all_goals go_wp2_with fail
               all_goals go_roundg (Q - (q+1))
               all_goals first
                |(case measure=>omega)
                |(case rel=>exact⟨q+1,.slice (some ⟨g,0,none⟩) (n+1) c9,by omega,rfl,by go_num,rfl,OF.out.ext (Ext.refl _).drew,(fun b hb _ hs=>HG.out.2.2 (by injection hb with hb;injection hs with hs;exact(show g=b from hb).trans (show bn=b from hs).symm)),S9.out.ext ((Ext.refl _).drew.sub _),X9.out.drew,Z9.out⟩)
          ·    have hnz0:decide ((0:Int)<(j:Int))=true:=decide_eq_true (by omega)
               have hnz1:decide (0<j)=true:=decide_eq_true (by omega)
               have hnz3:0<j:=by omega
               obtain⟨m,hm⟩ : ∃m,j=m+1:=⟨j - 1,by omega⟩
               have hmo:m<T.length:=by have:=HN2.out;omega
               have em:(j:Int) - 1=(m:Int):=by omega
               have hmn:m<n+1:=by omega
               have hmz:(m:Int)<((n:Int)+1):=by omega
               have hgm:=per_at (by have h:=OC.out.slice;exact h) m (by rw [hcl];exact hmn)
               have hgg:(T.take j++hole::T.drop j)[m]'(by rw [hcl];exact hmn)=T[m]:=by subst hm;exact holeA_get hmo
               rw [hgg]at hgm
               simp only [Nat.zero_add]at hgm
               have HMJ:=Lib.hid hm
               obtain⟨qq,hqq⟩ : ∃q,q=T[m]:=⟨_,rfl⟩
               rw [←hqq]at hgm
               have HQ2:=Lib.hid hqq
               have hlow : ∀h:0<j,(T[j - 1]'(hjT h))=qq:=fun _=>by subst hm;exact hqq.symm
               obtain⟨qf,qt⟩:=qq
               obtain⟨l0,l1,k0,k1⟩:=hgm
               dsimp only at l0 l1 k0 k1
               have HOKQ:=Lib.hid (And.intro k0 k1)
               have HLQ:=Lib.hid hlow
               clear hm hqq hgg hj0 k0 k1 hlow
               by_cases hlf:pf<qf
               ·have hbl:decide (pf<qf)=true:=decide_eq_true hlf
                have HLS2:=Lib.hid (show perLess ⟨pf,pt⟩ ⟨qf,qt⟩=true from by unfold perLess;dsimp only;rw [hbl];rfl)
                clear hlf
                have hput:=OwnOf.put2 (x:=hole) (i:=j) OC.out ⟨by rw [hcl],by rw [hcl];omega⟩ (by rw [List.getElem?_append_right (by simp;omega)];simp [show j - min j T.length=0 by have:=HN2.out;omega]) ⟨qf,qt⟩ HOKQ.out
                have hdn:(T.take j++hole::T.drop j).set j ⟨qf,qt⟩=T.take m++(⟨qf,qt⟩:Per)::T.drop m:=by
                 have h1:=HMJ.out
                 subst h1
                 rw [HQ2.out]
                 exact holeA_down hmo
                rw [hdn]at hput
                have OF:=Lib.hid hput.1
                have X9:=Lib.hid (Chg.below hput.2 X8.out fun q hq=>by have h1:=HG.out.1;omega)
                have K9:=Lib.hid (And.intro (hput.2.at KK.out.1 (fun e=>HG.out.2.1 e.symm)) (hput.2.at KK.out.2 (fun e=>HG.out.2.1 e.symm)))
                have S9:=Lib.hid (SN.out.chg hput.2 (fun b hb e=>HG.out.2.2 (by injection hb with hb;rw [←e,←hb])))
                have Z9:=Lib.hid (Nat.le_trans HZ8.out hput.2.size)
                have HH2:=Lib.hid (show ∀i (hi:i<T.length),m≤i→perLess ⟨pf,pt⟩ T[i]=true from fun i hi hmi=>by
                 by_cases e:i=m
                 ·subst e;rw [←HQ2.out];exact HLS2.out
                 ·exact HHI.out i hi (by have:=HMJ.out;omega))
                clear hput hdn
                have f0:=HFR.out (j*2) (by omega)
                have f1:=HFR.out (j*2+1) (by omega)
                obtain⟨⟨v0,g0⟩,⟨v1,g1⟩⟩:=HCE.out j (by omega)
                have m2:=KK.out.1
                have m3:=KK.out.2
                have ej:=cell_lt g0
                have ek:=cell_lt m2
                have hnz : ¬E=g:=fun e=>HG.out.2.1 e.symm
                have hnz2 : ¬g=E:=HG.out.2.1
                go_wp2_with fail
                go_big_region_o
                all_goals go_wp2_with fail
                all_goals go_roundg m
                all_goals first
                 |(case measure=>have:=HMJ.out;omega)
                 |(case rel=>exact⟨m,⟨qf,qt⟩,by omega,rfl,rfl,OF.out.ext (Ext.refl _).drew,HH2.out,X9.out.drew,⟨(Ext.refl _).drew.at K9.out.1,(Ext.refl _).drew.at K9.out.2⟩,S9.out.ext ((Ext.refl _).drew.sub _),Z9.out⟩)
               ·have hbl:decide (pf<qf)=false:=decide_eq_false hlf
                by_cases hle:pf=qf
                ·have hbe:(pf==qf)=true:=by simp [hle]
                 have hbd:decide (pf=qf)=true:=decide_eq_true hle
                 by_cases hlt3:pt<qt
                 ·have hb3:decide (pt<qt)=true:=decide_eq_true hlt3
                  have HLS2:=Lib.hid (show perLess ⟨pf,pt⟩ ⟨qf,qt⟩=true from by unfold perLess;dsimp only;rw [hbl,hbd,hb3];rfl)
                  clear hlf hle hlt3
                  have hput:=OwnOf.put2 (x:=hole) (i:=j) OC.out ⟨by rw [hcl],by rw [hcl];omega⟩ (by rw [List.getElem?_append_right (by simp;omega)];simp [show j - min j T.length=0 by have:=HN2.out;omega]) ⟨qf,qt⟩ HOKQ.out
                  have hdn:(T.take j++hole::T.drop j).set j ⟨qf,qt⟩=T.take m++(⟨qf,qt⟩:Per)::T.drop m:=by
                   have h1:=HMJ.out
                   subst h1
                   rw [HQ2.out]
                   exact holeA_down hmo
                  rw [hdn]at hput
                  have OF:=Lib.hid hput.1
                  have X9:=Lib.hid (Chg.below hput.2 X8.out fun q hq=>by have h1:=HG.out.1;omega)
                  have K9:=Lib.hid (And.intro (hput.2.at KK.out.1 (fun e=>HG.out.2.1 e.symm)) (hput.2.at KK.out.2 (fun e=>HG.out.2.1 e.symm)))
                  have S9:=Lib.hid (SN.out.chg hput.2 (fun b hb e=>HG.out.2.2 (by injection hb with hb;rw [←e,←hb])))
                  have Z9:=Lib.hid (Nat.le_trans HZ8.out hput.2.size)
                  have HH2:=Lib.hid (show ∀i (hi:i<T.length),m≤i→perLess ⟨pf,pt⟩ T[i]=true from fun i hi hmi=>by
                   by_cases e:i=m
                   ·subst e;rw [←HQ2.out];exact HLS2.out
                   ·exact HHI.out i hi (by have:=HMJ.out;omega))
                  clear hput hdn
                  have f0:=HFR.out (j*2) (by omega)
                  have f1:=HFR.out (j*2+1) (by omega)
                  obtain⟨⟨v0,g0⟩,⟨v1,g1⟩⟩:=HCE.out j (by omega)
                  have m2:=KK.out.1
                  have m3:=KK.out.2
                  have ej:=cell_lt g0
                  have ek:=cell_lt m2
                  have hnz : ¬E=g:=fun e=>HG.out.2.1 e.symm
                  have hnz2 : ¬g=E:=HG.out.2.1
                  go_wp2_with fail
                  go_big_region_o
                  all_goals go_wp2_with fail
                  all_goals go_roundg m
                  all_goals first
                   |(case measure=>have:=HMJ.out;omega)
                   |(case rel=>exact⟨m,⟨qf,qt⟩,by omega,rfl,rfl,OF.out.ext (Ext.refl _).drew,HH2.out,X9.out.drew,⟨(Ext.refl _).drew.at K9.out.1,(Ext.refl _).drew.at K9.out.2⟩,S9.out.ext ((Ext.refl _).drew.sub _),Z9.out⟩)
                 ·have hb3:decide (pt<qt)=false:=decide_eq_false hlt3
                  have HLOW : ∀h:0<j,¬perLess ⟨pf,pt⟩ (T[j - 1]'(hjT h))=true:=fun h=>by
                   rw [HLQ.out h];unfold perLess;dsimp only;rw [hbl,hbd,hb3];decide
                  clear hlf hle hlt3
                  have HLO:=Lib.hid HLOW
                  clear HLOW
                  have hput:=OwnOf.put2 (x:=hole) (i:=j) OC.out ⟨by rw [hcl],by rw [hcl];omega⟩ (by rw [List.getElem?_append_right (by simp;omega)];simp [show j - min j T.length=0 by have:=HN2.out;omega]) ⟨pf,pt⟩ HOKP2.out
                  have hfin:=Lib.hid (show T.take j++(⟨pf,pt⟩:Per)::T.drop j=sortBy cmpPer2 (o++ns.take (q+1))from by rw [HSTP.out];exact ins_sorted HTP.out (by have:=HN2.out;omega) HLO.out HHI.out)
                  rw [holeA_fill (by have:=HN2.out;omega),hfin.out]at hput
                  have OF:=Lib.hid hput.1
                  have X9:=Lib.hid (Chg.below hput.2 X8.out fun q hq=>by have h1:=HG.out.1;omega)
                  have K9:=Lib.hid (And.intro (hput.2.at KK.out.1 (fun e=>HG.out.2.1 e.symm)) (hput.2.at KK.out.2 (fun e=>HG.out.2.1 e.symm)))
                  have S9:=Lib.hid (SN.out.chg hput.2 (fun b hb e=>HG.out.2.2 (by injection hb with hb;rw [←e,←hb])))
                  have Z9:=Lib.hid (Nat.le_trans HZ8.out hput.2.size)
                  clear hput
                  have f0:=HFR.out (j*2) (by omega)
                  have f1:=HFR.out (j*2+1) (by omega)
                  obtain⟨⟨v0,g0⟩,⟨v1,g1⟩⟩:=HCE.out j (by omega)
                  have m2:=KK.out.1
                  have m3:=KK.out.2
                  have ej:=cell_lt g0
                  have ek:=cell_lt m2
                  have hnz : ¬E=g:=fun e=>HG.out.2.1 e.symm
                  have hnz2 : ¬g=E:=HG.out.2.1
                  go_wp2_with fail
                  go_big_region_o
                  all_goals go_wp2_with fail
                  all_goals go_roundg (Q - (q+1))
                  all_goals first
                   |(case measure=>omega)
                   |(case rel=>exact⟨q+1,.slice (some ⟨g,0,none⟩) (n+1) c9,by omega,rfl,by go_num,rfl,OF.out.ext (Ext.refl _).drew,(fun b hb _ hs=>HG.out.2.2 (by injection hb with hb;injection hs with hs;exact(show g=b from hb).trans (show bn=b from hs).symm)),S9.out.ext ((Ext.refl _).drew.sub _),X9.out.drew,Z9.out⟩)
                ·have hbe:(pf==qf)=false:=by simp [hle]
                 have hbd:decide (pf=qf)=false:=decide_eq_false hle
                 have HLOW : ∀h:0<j,¬perLess ⟨pf,pt⟩ (T[j - 1]'(hjT h))=true:=fun h=>by
                  rw [HLQ.out h];unfold perLess;dsimp only;rw [hbl,hbd];simp
                 clear hlf hle
                 have HLO:=Lib.hid HLOW
                 clear HLOW
                 have hput:=OwnOf.put2 (x:=hole) (i:=j) OC.out ⟨by rw [hcl],by rw [hcl];omega⟩ (by rw [List.getElem?_append_right (by simp;omega)];simp [show j - min j T.length=0 by have:=HN2.out;omega]) ⟨pf,pt⟩ HOKP2.out
                 have hfin:=Lib.hid (show T.take j++(⟨pf,pt⟩:Per)::T.drop j=sortBy cmpPer2 (o++ns.take (q+1))from by rw [HSTP.out];exact ins_sorted HTP.out (by have:=HN2.out;omega) HLO.out HHI.out)
                 rw [holeA_fill (by have:=HN2.out;omega),hfin.out]at hput
                 have OF:=Lib.hid hput.1
                 have X9:=Lib.hid (Chg.below hput.2 X8.out fun q hq=>by have h1:=HG.out.1;omega)
                 have K9:=Lib.hid (And.intro (hput.2.at KK.out.1 (fun e=>HG.out.2.1 e.symm)) (hput.2.at KK.out.2 (fun e=>HG.out.2.1 e.symm)))
                 have S9:=Lib.hid (SN.out.chg hput.2 (fun b hb e=>HG.out.2.2 (by injection hb with hb;rw [←e,←hb])))
                 have Z9:=Lib.hid (Nat.le_trans HZ8.out hput.2.size)
                 clear hput
                 have f0:=HFR.out (j*2) (by omega)
                 have f1:=HFR.out (j*2+1) (by omega)
                 obtain⟨⟨v0,g0⟩,⟨v1,g1⟩⟩:=HCE.out j (by omega)
                 have m2:=KK.out.1
                 have m3:=KK.out.2
                 have ej:=cell_lt g0
                 have ek:=cell_lt m2
                 have hnz : ¬E=g:=fun e=>HG.out.2.1 e.symm
                 have hnz2 : ¬g=E:=HG.out.2.1
                 go_wp2_with fail
                 go_big_region_o
                 all_goals go_wp2_with fail
                 all_goals go_roundg (Q - (q+1))
                 all_goals first
                  |(case measure=>omega)
                  |(case rel=>exact⟨q+1,.slice (some ⟨g,0,none⟩) (n+1) c9,by omega,rfl,by go_num,rfl,OF.out.ext (Ext.refl _).drew,(fun b hb _ hs=>HG.out.2.2 (by injection hb with hb;injection hs with hs;exact(show g=b from hb).trans (show bn=b from hs).symm)),S9.out.ext ((Ext.refl _).drew.sub _),X9.out.drew,Z9.out⟩)
        ·have hqQ:q=Q:=by omega
         have hd3 : ¬(q:Int)<(Q:Int):=by omega
         have HFIN:=Lib.hid (show sortBy cmpPer2 (o++ns.take q)=refLev P fc kk from by rw [HSN.out,hqQ,HQ.out,List.take_length])
         have hkkN:kk+1≤20002:=by omega
         clear hqQ
         go_wp2_with fail
         go_roundg (N+1 - (kk+1))
         case measure=>omega
         case rel=>exact⟨kk+1,_,⟨by omega,by omega⟩,rfl,by go_num,rfl,by show OwnOf _ _ _ _ _ _ _;rw [Nat.add_sub_cancel,←HFIN.out];exact OT.out,X7.out⟩
    ·have hkN:kk=N+1:=by omega
     have hd : ¬(kk:Int)≤(N:Int):=by omega
     have HF:=Lib.hid (show refLev P fc (kk - 1)=refLevels l from by
      unfold refLevels
      rw [hkN,HN.out,HFC.out,HPP.out]
      rfl)
     clear hkN
     go_wp2_with fail
     go_ret
     exact⟨u9,rfl,by rw [←HF.out];exact(O9.out.fresh flat_per).ext (on_mono _ fun q _ hq=>Nat.le_trans X20.out.size hq),X20.out.trans X9.out⟩
end Go.Proofs.YtkddkbpoefidpaaGreatDoor
