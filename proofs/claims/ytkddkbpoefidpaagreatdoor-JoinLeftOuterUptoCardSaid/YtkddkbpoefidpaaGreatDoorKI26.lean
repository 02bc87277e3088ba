/- joined texts of a proof: AliV, LeftW, AwkP -/
import Derived.Test.YtkddkbpoefidpaaGreatDoorKI25
import Derived.Test.YtkddkbpoefidpaaGreatDoorKI24
import Derived.Test.YtkddkbpoefidpaaGreatDoorKI18
namespace Go.Proofs.YtkddkbpoefidpaaGreatDoor
open Go.RowKit Go.Maps
set_option maxRecDepth 100000 in
set_option maxHeartbeats 8000000 in
theorem innerAligned_any (va vb:Value) (a b:List Tup) (ve:Value) (es:List ExprI) (pred:Int) (w:World) (ha:SliceOf Rep.tup w.cell? va a) (hb:SliceOf Rep.tup w.cell? vb b) (hla:a.length≤8) (hlb:b.length≤8)
  (he:SliceOf Rep.expr w.cell? ve es) (hel:es.length≤1000) (hfa:fewT a) (hfb:fewT b) (hT:TabW w) :
  Calls Tryz.prog 24 #[va,vb,ve,.int .i64 pred] w fun e w'=> ∃v',e = .returned v'∧SliceOf Rep.tup (on w' (since w)) v' (innerT (trE es pred) a b)∧Ext w w':=by
 obtain⟨i2,hi2,hz20,hz21,hz22⟩:=info_parts infoTup
 have hmm:= @run_makeMap Tryz.prog
 have HMM:=Lib.hid hmm
 have HA:=Lib.hid ha
 have HB:=Lib.hid hb
 have HE:=Lib.hid he
 have HT:=Lib.hid hT
 have HFA:=Lib.hid hfa
 have HFB:=Lib.hid hfb
 have HEL:=Lib.hid hel
 have HLL:=Lib.hid (And.intro hla hlb)
 obtain⟨pa,ca,rfl,_⟩:=ha.form
 obtain⟨qb,cb,rfl,_⟩:=hb.form
 obtain⟨pe,ce,rfl,_⟩:=he.form
 obtain⟨n,hn⟩ : ∃n,n=a.length:=⟨_,rfl⟩
 obtain⟨m,hm⟩ : ∃m,m=b.length:=⟨_,rfl⟩
 rw [←hn]at HA ⊢
 rw [←hm]at HB ⊢
 have HN:=Lib.hid hn
 have HM:=Lib.hid hm
 have HLIT:=Lib.hid (show SliceOf (Rep.slice Rep.tup) (w.alloc (.cells #[.slice pa n ca,.slice qb m cb] 22)).cell? (.slice (some ⟨w.heap.size,0,none⟩) 2 2) [a,b]from
  slice_lit (Rep.slice Rep.tup) w [.slice pa n ca,.slice qb m cb] 22 [[.slice pa n ca],[.slice qb m cb]] [a,b] rfl ⟨⟨_,rfl,HA.out.ext ((Ext.refl w).alloc _).full⟩,⟨_,rfl,HB.out.ext ((Ext.refl w).alloc _).full⟩,trivial⟩ (by simp [maxLen]))
 have HFL:=Lib.hid (show ([a,b]:List (List Tup)).flatten=a++b from by simp)
 obtain⟨tr,htr⟩ : ∃tr,tr=trE es pred:=⟨_,rfl⟩
 have HTR:=Lib.hid htr
 rw [←htr,←aligned]
 obtain⟨P,hP⟩ : ∃P,P=pts (a++b):=⟨_,rfl⟩
 have hPl:P.length≤32:=by
  have h1:=(pts_law (a++b)).2.2
  have h2:=bnd_len (a++b)
  rw [List.length_append]at h2
  rw [hP]
  show (pts (a++b)).length≤32
  omega
 have hpa : ∀x∈bnd a,x∈P:=fun x hx=>by rw [hP];exact((pts_law (a++b)).2.1 x).2 (by rw [bnd_append];exact List.mem_append_left _ hx)
 have hpb : ∀x∈bnd b,x∈P:=fun x hx=>by rw [hP];exact((pts_law (a++b)).2.1 x).2 (by rw [bnd_append];exact List.mem_append_right _ hx)
 rw [←hP]
 have hAl:=splitT_len2 a hpa
 have hBl:=splitT_len2 b hpb
 have hAl2:a.length*(P.length - 1)≤8*31:=Nat.mul_le_mul hla (by omega)
 have hBl2:b.length*(P.length - 1)≤8*31:=Nat.mul_le_mul hlb (by omega)
 obtain⟨A,hA⟩ : ∃A,A=splitT a P:=⟨_,rfl⟩
 obtain⟨B,hBB⟩ : ∃B,B=splitT b P:=⟨_,rfl⟩
 have hfA:fewT A:=by rw [hA];exact split_few hfa P
 have hfB:fewT B:=by rw [hBB];exact split_few hfb P
 rw [←hA,←hBB]
 rw [←hA]at hAl
 rw [←hBB]at hBl
 have HP:=Lib.hid hP
 have HAA:=Lib.hid hA
 have HBB:=Lib.hid hBB
 have HFA':=Lib.hid hfA
 have HFB':=Lib.hid hfB
 have HAL:=Lib.hid (show A.length≤248 by omega)
 have HBL:=Lib.hid (show B.length≤248 by omega)
 clear ha hb he hT hn hm hla hlb hel hfa hfb htr hP hPl hpa hpb hAl hBl hAl2 hBl2 hA hBB hfA hfB hmm
 go_enter Tryz.func24,Tryz.ntmps24
 go_wp2_with fail
 refine(concat_tup _ [a,b] _ HLIT.out (by rw [HFL.out,List.length_append];have:=HLL.out;omega)).mono ?_
 rintro e w1 ⟨u1,rfl,o1,x1⟩
 rw [HFL.out]at o1
 have s1:=o1.slice
 obtain⟨p1,c1,rfl,_⟩:=s1.form
 have S1:=Lib.hid s1
 have X1:=Lib.hid (((Ext.refl w).alloc _).trans x1)
 obtain⟨nab,hnab⟩ : ∃z,z=(a++b).length:=⟨_,rfl⟩
 rw [←hnab]at S1 ⊢
 have HNAB:=Lib.hid hnab
 have hmm:=HMM.out
 clear s1 o1 x1 HLIT hnab
 go_wp2_with fail
 have hMade:=MapV.made w1 Tryz.prog 94 ShSl
 obtain⟨mb,hmb⟩ : ∃z,z=w1.heap.size:=⟨_,rfl⟩
 obtain⟨w2,hw2⟩ : ∃z,z=w1.alloc (.map #[] 0):=⟨_,rfl⟩
 rw [←hmb,←hw2]at hMade
 have X2:=Lib.hid (show Ext w w2 from by rw [hw2];exact X1.out.alloc _)
 have x12:Ext w1 w2:=by rw [hw2];exact(Ext.refl w1).alloc _
 have S2:=Lib.hid (S1.out.ext x12.full)
 have MD:=Lib.hid hMade
 have HMB:=Lib.hid (show w.heap.size≤mb∧mb<w2.heap.size from ⟨by rw [hmb];exact X1.out.size,hMade.lt⟩)
 try rw [←hmb]
 try rw [←hw2]
 clear hMade hmb hw2 x12 S1 X1 hmm
 go_wp2_with fail
 refine(align_any _ _ b (a++b) _ (HB.out.ext X2.out.full) S2.out (by have:=HLL.out;omega) (by rw [List.length_append];have:=HLL.out;omega) HFB.out.long).mono ?_
 rintro e w3 ⟨u3,rfl,o3,x3⟩
 rw [←HP.out,←HBB.out]at o3
 have MD3:=Lib.hid (MD.out.ext x3)
 have s3:=o3.slice.ext (off_map MD3.out)
 obtain⟨p3,c3,rfl,_,_,hp3⟩:=s3.form
 obtain⟨N,hN⟩ : ∃N,N=B.length:=⟨_,rfl⟩
 rw [←hN]at s3 hp3 ⊢
 have S3:=Lib.hid s3
 have HP3:=Lib.hid hp3
 have HNB:=Lib.hid hN
 have HNL:N≤248:=by rw [hN];exact HBL.out
 have X3:=Lib.hid (X2.out.trans x3)
 have S23:=Lib.hid ((S2.out.ext x3.full).ext (off_map MD3.out))
 have HM3:=Lib.hid (show w.heap.size≤mb∧mb<w3.heap.size from ⟨HMB.out.1,Nat.lt_of_lt_of_le HMB.out.2 x3.size⟩)
 clear o3 s3 hp3 hN x3 MD S2 X2 HMB
 go_wp2_with fail
 go_loopg [28] N (fun gk vi wr=> ∃(k:Nat) (mp:Lit→Option Value),k≤N∧gk=N - k∧vi = .int .i64 k∧Hid (MapV wr Tryz.prog 94 ShSl mb k mp)∧Hid (CInv wr (fun x=>x<w3.heap.size∧x≠mb) w3.heap.size 96 (B.take k) mp)∧Hid (Chg (fun x=>x=mb) w3 wr))
 case atStart=>exact⟨0,_,by omega,rfl,rfl,MD3.out,CInv.nil _ _ _ _,Chg.refl _ _⟩
 case round =>
  clear MD3
  obtain⟨k,mp,hk,rfl,rfl,MP,CI,HC⟩:=hrel
  by_cases hlt:k<N
  ·have hkl:k<B.length:=by have:=HNB.out;omega
   obtain⟨bt,ot,rfl⟩:=HP3.out (by decide) (by omega)
   have hd:decide ((k:Int)<(N:Int))=true:=by simp;omega
   obtain⟨ta,tb,c0,c1',c2,c3',g0,g1,r1,r2⟩:=tup_at (by have h:=S3.out;rw [HNB.out]at h;exact h) k hkl
   have hst:B.take (k+1)=B.take k ++ [B[k]]:=List.take_succ_eq_append_getElem hkl
   generalize B[k]=y at c1' c2 g0 g1 r1 r2 hst
   obtain⟨yv,yf,yt,yl⟩:=y
   dsimp only at c0 c1' c2 c3' g0 g1 r1 r2
   obtain⟨n0,c0⟩:=on_some.1 c0
   have hne:bt≠mb:=n0
   replace c0:=HC.out.at c0 hne
   replace c1':=HC.out.at (on_some.1 c1').2 hne
   replace c2:=HC.out.at (on_some.1 c2).2 hne
   replace c3':=HC.out.at (on_some.1 c3').2 hne
   obtain⟨p4,k4,rfl,_⟩:=g0.form
   obtain⟨p5,k5,rfl,_⟩:=g1.form
   obtain⟨n4,hn4⟩ : ∃z,z=yv.length:=⟨_,rfl⟩
   obtain⟨n5,hn5⟩ : ∃z,z=yl.length:=⟨_,rfl⟩
   rw [←hn4]at c0 g0
   rw [←hn5]at c3' g1
   have HST:=Lib.hid hst
   have G0:=Lib.hid g0
   have G1:=Lib.hid g1
   have HRR:=Lib.hid (show okI yf∧okI yt from ⟨r1,r2⟩)
   have e0:=cell_lt c0
   have HPK:=Lib.hid (perKey_of ⟨yf,yt⟩ HRR.out)
   clear hst g0 g1 r1 r2 n0 hne hn4 hn5 hkl
   have xA:Ext wr ((wr.alloc (.cells #[.slice p4 n4 k4,.int .i64 yf,.int .i64 yt,.slice p5 n5 k5] 96)).alloc (.cells #[.slice p4 n4 k4,.int .i64 yf,.int .i64 yt,.slice p5 n5 k5] 96)):=((Ext.refl wr).alloc _).alloc _
   obtain⟨v0,st,ob,hrun1,hv0,hs0,hob,grB,hstore⟩:=entry_v per_law Tryz.underlying125 (fun u=>zero_slU u) (S:=ShSl) ⟨none,0,0,rfl⟩ (MP.out.ext xA) (by unfold maxLen;omega) HPK.out
   have HMB3:=HM3.out.2
   have HSZR:=HC.out.size
   have hlit : ∀j u,[.slice p4 n4 k4,.int .i64 yf,.int .i64 yt,.slice p5 n5 k5][j]?=some u→(ChangeMaps.setBlock ((wr.alloc (.cells #[.slice p4 n4 k4,.int .i64 yf,.int .i64 yt,.slice p5 n5 k5] 96)).alloc (.cells #[.slice p4 n4 k4,.int .i64 yf,.int .i64 yt,.slice p5 n5 k5] 96)) mb ob).cell? ((⟨wr.heap.size+1,0,none⟩:Addr).add j)=some u:=fun j u hj=>by
    have h:=cells_new2 wr (.cells #[.slice p4 n4 k4,.int .i64 yf,.int .i64 yt,.slice p5 n5 k5] 96) [.slice p4 n4 k4,.int .i64 yf,.int .i64 yt,.slice p5 n5 k5] 96 j u hj
    rw [add_lit]at h ⊢
    exact cell_grown grB h (fun x hx=>by have:=Option.some.inj hx;omega)
   have hcib:CInv (ChangeMaps.setBlock ((wr.alloc (.cells #[.slice p4 n4 k4,.int .i64 yf,.int .i64 yt,.slice p5 n5 k5] 96)).alloc (.cells #[.slice p4 n4 k4,.int .i64 yf,.int .i64 yt,.slice p5 n5 k5] 96)) mb ob) (fun x=>x<w3.heap.size∧x≠mb) w3.heap.size 96 (B.take k) mp:=(CI.out.ext xA).keep grB (fun x hx e=>hx.2 (Option.some.inj e).symm) (fun x e=>by have:=Option.some.inj e;omega)
   have hown:=hcib.own (p:=⟨yf,yt⟩) HRR.out
   rw [←hv0.out]at hown
   obtain⟨p9,n9,c9,rfl⟩:=hs0
   have hdat:Sub (on w3 (fun x=>x≠mb)) (on (ChangeMaps.setBlock ((wr.alloc (.cells #[.slice p4 n4 k4,.int .i64 yf,.int .i64 yt,.slice p5 n5 k5] 96)).alloc (.cells #[.slice p4 n4 k4,.int .i64 yf,.int .i64 yt,.slice p5 n5 k5] 96)) mb ob) (avoid (fun x=>x<w3.heap.size∧x≠mb) (.slice p9 n9 c9))):=fun q v e=>by
    obtain⟨h1,h2⟩:=on_some.1 e
    have h1:q.block≠mb:=h1
    have h3:=World.block_lt_of_cell? w3 q h2
    exact on_some.2 ⟨⟨fun e2=>by have:=(hown.lt _ e2.symm).1;omega,h3,h1⟩,grB.cell (xA.at (HC.out.at h2 h1)) (fun e2=>h1 (Option.some.inj e2))⟩
   have hszB:wr.heap.size+2≤(ChangeMaps.setBlock ((wr.alloc (.cells #[.slice p4 n4 k4,.int .i64 yf,.int .i64 yt,.slice p5 n5 k5] 96)).alloc (.cells #[.slice p4 n4 k4,.int .i64 yf,.int .i64 yt,.slice p5 n5 k5] 96)) mb ob).heap.size:=by
    have h:=grB.size
    have h2:((wr.alloc (.cells #[.slice p4 n4 k4,.int .i64 yf,.int .i64 yt,.slice p5 n5 k5] 96)).alloc (.cells #[.slice p4 n4 k4,.int .i64 yf,.int .i64 yt,.slice p5 n5 k5] 96)).heap.size=wr.heap.size+1+1:=by simp
    omega
   have hcB:Chg (fun x=>x=mb) w3 (ChangeMaps.setBlock ((wr.alloc (.cells #[.slice p4 n4 k4,.int .i64 yf,.int .i64 yt,.slice p5 n5 k5] 96)).alloc (.cells #[.slice p4 n4 k4,.int .i64 yf,.int .i64 yt,.slice p5 n5 k5] 96)) mb ob):=(HC.out.ext xA).grown grB (fun x e=> .inl (Option.some.inj e).symm)
   generalize ChangeMaps.setBlock ((wr.alloc (.cells #[.slice p4 n4 k4,.int .i64 yf,.int .i64 yt,.slice p5 n5 k5] 96)).alloc (.cells #[.slice p4 n4 k4,.int .i64 yf,.int .i64 yt,.slice p5 n5 k5] 96)) mb ob=wB at hrun1 hob hlit hcib hown hdat hszB hcB
   have hol:(ofPer (B.take k) ⟨yf,yt⟩).length≤248:=Nat.le_trans (ofPer_len _ _) (Nat.le_trans (List.length_take_le _ _) (by omega))
   obtain⟨L9,hL9⟩ : ∃z,z=ofPer (B.take k) ⟨yf,yt⟩:=⟨_,rfl⟩
   rw [←hL9]at hown hol
   have HL9:=Lib.hid hL9
   have HV0:=Lib.hid hv0.out
   have HOB:=Lib.hid hob
   have HSTO:=Lib.hid hstore
   have HLIT2:=Lib.hid hlit
   have HCIB:=Lib.hid hcib
   have HOWN:=Lib.hid hown
   have HDAT:=Lib.hid hdat
   have HCB:=Lib.hid hcB
   have HSZB:=Lib.hid (show w3.heap.size≤wB.heap.size from by omega)
   have B1:L9.length+1≤maxLen:=by unfold maxLen;omega
   have B2:(L9.length+1)*64≤140737488355328:=by omega
   clear hv0 hob hstore hlit hcib hown hdat hcB hL9 hol grB hszB HSZR HMB3 xA MP CI HC
   go_wp2_with (at_builtin;go_loud (refine wpList_append_one Rep.tup (fun x=>x<w3.heap.size∧x≠mb) rfl _ _ 22 rfl w3.heap.size 96 i2 _ 64 Tryz.underlying22 hi2 hz20 hz21 hz22 rfl (by decide) (.slice p9 n9 c9) L9 rfl HOWN.out ⟨_,0,none⟩ 1 ⟨yv,yf,yt,yl⟩ [.slice p4 n4 k4,.int .i64 yf,.int .i64 yt,.slice p5 n5 k5] rfl ⟨_,_,rfl,G0.out.ext HDAT.out,G1.out.ext HDAT.out,HRR.out.1,HRR.out.2⟩ HLIT2.out B1 B2 HSZB.out ?_))
   intro g8 cap8 w8 own8 gr8 hg8
   have hbase8 : ∀x,(Value.slice p9 n9 c9).ownBlock=some x→w3.heap.size≤x:=fun x hx=>(HOWN.out.lt x hx).1
   have hmb8:w8.heap[mb]?=some ob:=by
    rw [gr8.block mb (Nat.lt_of_lt_of_le HM3.out.2 HSZB.out) (fun e=>by have:=hbase8 mb e.symm;have:=HM3.out.2;omega)]
    exact HOB.out
   obtain⟨w9,hrun2,m9,gr9⟩:=HSTO.out w8 (.slice (some ⟨g8,0,none⟩) (L9.length+1) cap8) hmb8 ⟨_,_,_,rfl⟩
   unfold goInt at hrun2
   have M9:=Lib.hid m9
   have hmbI : ∀x,(some mb:Option Nat)=some x→x=mb:=fun x e=>(Option.some.inj e).symm
   have CI8:=CInv.step HCIB.out (t:=⟨yv,yf,yt,yl⟩) HRR.out (g:=g8) (a:=L9.length+1) (b:=cap8) (w':=w8) (by show OwnOf _ _ _ _ _ _ (ofPer (B.take k) ⟨yf,yt⟩++_);rw [←HL9.out];exact own8) (by show World.grownBy _ _ (Option.getD (mp (perKey ⟨yf,yt⟩)) _).ownBlock;rw [←HV0.out];exact gr8) (fun x hx e=>by
    have e:(Option.getD (mp (perKey ⟨yf,yt⟩)) (.slice none 0 0)).ownBlock=some x:=e
    rw [←HV0.out]at e
    have:=hbase8 x e
    have:=hx.1
    omega) (by show (Option.getD (mp (perKey ⟨yf,yt⟩)) _).ownBlock=_∨_;rw [←HV0.out];exact hg8)
   rw [←HST.out]at CI8
   have CI9:=Lib.hid (CI8.keep gr9 (fun x hx e=>hx.2 (hmbI x e)) (fun x e=>by have:=hmbI x e;have:=HM3.out.2;omega))
   have HC9:=Lib.hid ((HCB.out.grown gr8 (fun x e=> .inr (hbase8 x e))).grown gr9 (fun x e=> .inl (hmbI x e)))
   clear own8 gr8 hg8 hbase8 hmb8 m9 gr9 hmbI CI8 HOWN HDAT HCB HCIB HSTO HOB HLIT2 HV0 c0 c1' c2 c3' e0 hrun1
   go_wp2_with fail
   go_roundg (N - (k+1))
   case measure=>omega
   case rel=>exact⟨k+1,_,by omega,rfl,by go_num,M9.out,CI9.out,HC9.out⟩
  ·have hkN:k=N:=by omega
   have hd : ¬(k:Int)<(N:Int):=by omega
   have hxw:Ext w wr:=Chg.below HC.out X3.out (fun x e=>by have e:x=mb:=e;have:=HM3.out.1;omega)
   have hci:CInv wr (fun x=>x<w3.heap.size∧x≠mb) w3.heap.size 96 B mp:=by
    have h:=CI.out
    rw [hkN,HNB.out,List.take_length]at h
    exact h
   have HXW:=Lib.hid hxw
   have CI2:=Lib.hid hci
   have SB2:=Lib.hid ((S23.out.chg HC.out (fun x hx e=>hx e)).ext (on_sub _ _))
   have HSW:=Lib.hid (show w3.heap.size≤wr.heap.size from HC.out.size)
   clear hxw hci CI HC S23
   subst hkN
   go_wp2_with fail
   refine(align_any _ _ a (a++b) _ (HA.out.ext HXW.out.full) SB2.out (by have:=HLL.out;omega) (by rw [List.length_append];have:=HLL.out;omega) HFA.out.long).mono ?_
   rintro e w5 ⟨u5,rfl,o5,x5⟩
   rw [←HP.out,←HAA.out]at o5
   have s5:=o5.slice
   obtain⟨p6,c6,rfl,_,_,hp6⟩:=s5.form
   obtain⟨M,hM⟩ : ∃M,M=A.length:=⟨_,rfl⟩
   rw [←hM]at s5 hp6 ⊢
   have S5:=Lib.hid s5
   have HP6:=Lib.hid hp6
   have HMA:=Lib.hid hM
   have HML:M≤248:=by rw [hM];exact HAL.out
   have M5:=Lib.hid (MP.out.ext x5)
   have CI5:=Lib.hid (CI2.out.ext x5)
   have X5:=Lib.hid (HXW.out.trans x5)
   have HS5:=Lib.hid (show w.heap.size≤w5.heap.size from X5.out.size)
   clear o5 s5 hp6 hM x5 MP CI2 SB2 HXW
   go_wp2_with fail
   go_loopg [13,46] M (fun gk vo vi wq=> ∃(i:Nat) (u:Value),i≤M∧gk=M - i∧vi = .int .i64 i∧u=vo∧Hid (OwnOf Rep.tup wq (fun _=>True) w5.heap.size 96 u (aliUpto tr A B i))∧Hid (Ext w5 wq))
   case atStart=>exact⟨0,_,by omega,rfl,rfl,rfl,OwnOf.nil _ _ _ _ _,Ext.refl w5⟩
   case round =>
    obtain⟨i,u,hi,rfl,rfl,rfl,OU,HX⟩:=hrel
    by_cases hlt2:i<M
    ·have hil:i<A.length:=by have:=HMA.out;omega
     obtain⟨bt2,ot2,rfl⟩:=HP6.out (by decide) (by omega)
     have hd2:decide ((i:Int)<(M:Int))=true:=by simp;omega
     obtain⟨ta,tb,c0,c1',c2,c3',g0,g1,r1,r2⟩:=tup_at (by have h:=S5.out;rw [HMA.out]at h;exact h) i hil
     have hst:=aliUpto_snoc tr A B i hil
     have hfx:=HFA'.out A[i] (List.getElem_mem hil)
     have hul:=aliUpto_len tr A B i
     have hul2:A.length*B.length≤248*248:=Nat.mul_le_mul HAL.out HBL.out
     generalize A[i]=x at c1' c2 g0 g1 r1 r2 hst hfx
     obtain⟨xv,xf,xt,xl⟩:=x
     dsimp only at c0 c1' c2 c3' g0 g1 r1 r2 hfx
     replace c0:=HX.out.at c0
     replace c1':=HX.out.at c1'
     replace c2:=HX.out.at c2
     replace c3':=HX.out.at c3'
     obtain⟨p4,k4,rfl,_⟩:=g0.form
     obtain⟨p5,k5,rfl,_⟩:=g1.form
     obtain⟨n4,hn4⟩ : ∃z,z=xv.length:=⟨_,rfl⟩
     obtain⟨n5,hn5⟩ : ∃z,z=xl.length:=⟨_,rfl⟩
     rw [←hn4]at c0 g0
     rw [←hn5]at c3' g1
     have HST:=Lib.hid hst
     have G0:=Lib.hid g0
     have G1:=Lib.hid g1
     have HRR:=Lib.hid (show okI xf∧okI xt from ⟨r1,r2⟩)
     have HFX:=Lib.hid hfx
     have e0:=cell_lt c0
     have HPK:=Lib.hid (perKey_of ⟨xf,xt⟩ HRR.out)
     obtain⟨ys0,hys0⟩ : ∃z,z=aliUpto tr A B i:=⟨_,rfl⟩
     have hyl:ys0.length≤61504:=by rw [hys0];omega
     rw [←hys0]at OU
     have HYS:=Lib.hid hys0
     have HYL:=Lib.hid hyl
     have OU1:=Lib.hid (OU.out.ext ((Ext.refl wr).alloc (.cells #[.slice p4 n4 k4,.int .i64 xf,.int .i64 xt,.slice p5 n5 k5] 96)))
     have HX1:=Lib.hid (HX.out.alloc (.cells #[.slice p4 n4 k4,.int .i64 xf,.int .i64 xt,.slice p5 n5 k5] 96))
     obtain⟨tp,htp⟩ : ∃z,z=wr.heap.size:=⟨_,rfl⟩
     obtain⟨w6,hw6⟩ : ∃z,z=wr.alloc (.cells #[.slice p4 n4 k4,.int .i64 xf,.int .i64 xt,.slice p5 n5 k5] 96):=⟨_,rfl⟩
     have d0:w6.cell? ⟨tp,0,none⟩=some (.slice p4 n4 k4):=by rw [hw6,htp];go_simp
     have d1:w6.cell? ⟨tp,1,none⟩=some (.int .i64 xf):=by rw [hw6,htp];go_simp
     have d2:w6.cell? ⟨tp,2,none⟩=some (.int .i64 xt):=by rw [hw6,htp];go_simp
     have d3:w6.cell? ⟨tp,3,none⟩=some (.slice p5 n5 k5):=by rw [hw6,htp];go_simp
     rw [←hw6]at OU1 HX1
     have e6:=cell_lt d0
     have M6:=Lib.hid (M5.out.ext HX1.out)
     have HXZ:=Lib.hid HX.out.size
     have HUT:=Lib.hid (show ∀x,u.ownBlock=some x→x≠tp from fun x hx e=>by have h1:=(OU.out.lt x hx).2;omega)
     clear hst g0 g1 r1 r2 hn4 hn5 hfx hul hul2 hys0 hyl OU HX
     go_wp2_with (at_lookup;rw [←htp,←hw6];refine wpList_lookup_v _ rfl _ _ 125 rfl 94 22 (Keyed.of_law per_law) Tryz.underlying125 (.slice none 0 0) (zero_slU _) ShSl ⟨_,_,_,rfl⟩ mb k mp rfl M6.out _ (perKey ⟨xf,xt⟩) rfl HPK.out ?_)
     intro vp HVP hsp
     obtain⟨p9,n9,c9,rfl⟩:=hsp
     have hown:=CI5.out.own (p:=⟨xf,xt⟩) HRR.out
     rw [←HVP.out]at hown
     have hll:=ofPer_len B ⟨xf,xt⟩
     have hfL:fewT (ofPer B ⟨xf,xt⟩):=ofPer_few HFB'.out ⟨xf,xt⟩
     have hall:=rowUpto_all tr B ⟨xv,xf,xt,xl⟩
     have hL9e:tupPer ⟨xv,xf,xt,xl⟩=⟨xf,xt⟩:=rfl
     rw [hL9e]at hall
     obtain⟨L9,hL9⟩ : ∃z,z=ofPer B ⟨xf,xt⟩:=⟨_,rfl⟩
     rw [←hL9]at hown hll hfL hall
     have hLB:L9.length≤248:=Nat.le_trans hll HBL.out
     have hsl:=hown.slice
     obtain⟨p9',c9',hf9,_,_,hp9⟩:=hsl.form
     obtain⟨nv,hnv⟩ : ∃z,z=L9.length:=⟨_,rfl⟩
     rw [←hnv]at hf9 hp9 hLB
     injection hf9 with hq1 hq2 hq3
     subst hq1 hq2 hq3
     have HSL:=Lib.hid hsl
     have HP9:=Lib.hid hp9
     have HNV:=Lib.hid hnv
     have HLB:=Lib.hid hLB
     have HFL9:=Lib.hid hfL
     have HALL:=Lib.hid hall
     have HTPL:=Lib.hid (show w5.heap.size≤tp from by rw [htp];exact HXZ.out)
     have BX:=Lib.hid (show w6.cell? ⟨tp,0,none⟩=some (.slice p4 n4 k4)∧w6.cell? ⟨tp,1,none⟩=some (.int .i64 xf)∧w6.cell? ⟨tp,2,none⟩=some (.int .i64 xt)∧w6.cell? ⟨tp,3,none⟩=some (.slice p5 n5 k5)from ⟨d0,d1,d2,d3⟩)
     clear hown hll hfL hall hL9e hL9 hLB hsl hp9 hnv HVP d0 d1 d2 d3 e6 c0 c1' c2 c3' e0
     go_wp2_with fail
     try rw [←htp]
     try rw [←hw6]
     clear hw6 htp HXZ
     obtain⟨wo,rfl⟩ : ∃z,z=wr:=⟨_,rfl⟩
     go_loopg [13,55] n9 (fun gj vo vi wq=> ∃(j:Nat) (uq:Value),j≤n9∧gj=n9 - j∧vi = .int .i64 j∧uq=vo∧Hid (OwnOf Rep.tup wq (fun _=>True) w5.heap.size 96 uq (ys0++rowUpto tr ⟨xv,xf,xt,xl⟩ L9 j))∧Hid (Ext w5 wq)∧Hid (∀x,uq.ownBlock=some x→x≠tp)∧Hid (wq.cell? ⟨tp,0,none⟩=some (.slice p4 n4 k4)∧wq.cell? ⟨tp,1,none⟩=some (.int .i64 xf)∧wq.cell? ⟨tp,2,none⟩=some (.int .i64 xt)∧wq.cell? ⟨tp,3,none⟩=some (.slice p5 n5 k5)))
     case atStart=>exact⟨0,u,by omega,rfl,rfl,rfl,by show OwnOf _ _ _ _ _ _ (ys0 ++ []);rw [List.append_nil];exact OU1.out,HX1.out,HUT.out,BX.out⟩
     case round =>
      clear OU1 HX1 HUT BX M6
      have hn9:=HLB.out
      obtain⟨j,uq,hj,rfl,rfl,rfl,OI,HXI,HUI,BXI⟩:=hrel
      have b0:=BXI.out.1
      have b1:=BXI.out.2.1
      have b2:=BXI.out.2.2.1
      have b3:=BXI.out.2.2.2
      have eb:=cell_lt b0
      by_cases hlt3:j<n9
      ·have hjr:j<L9.length:=by have:=HNV.out;omega
       obtain⟨bt3,ot3,rfl⟩:=HP9.out (by decide) (by omega)
       have hd3:decide ((j:Int)<(n9:Int))=true:=by simp;omega
       obtain⟨sa,sb,f0,f1,f2,f3,h0,h1,z1,z2⟩:=tup_at (by have h:=HSL.out;rw [HNV.out]at h;exact h) j hjr
       have hfy:=HFL9.out L9[j] (List.getElem_mem hjr)
       have hsn1:=rowUpto_no tr ⟨xv,xf,xt,xl⟩ L9 j hjr
       have hsn0:=rowUpto_yes tr ⟨xv,xf,xt,xl⟩ L9 j hjr
       generalize L9[j]=y at f1 f2 h0 h1 z1 z2 hfy hsn1 hsn0
       obtain⟨yv,yf,yt,yl⟩:=y
       dsimp only at f0 f1 f2 f3 h0 h1 z1 z2 hfy hsn1 hsn0
       replace f0:=HXI.out.at f0
       replace f1:=HXI.out.at f1
       replace f2:=HXI.out.at f2
       replace f3:=HXI.out.at f3
       obtain⟨p7,k7,rfl,_⟩:=h0.form
       obtain⟨p8,k8,rfl,_⟩:=h1.form
       obtain⟨n7,hn7⟩ : ∃z,z=yv.length:=⟨_,rfl⟩
       obtain⟨n8,hn8⟩ : ∃z,z=yl.length:=⟨_,rfl⟩
       rw [←hn7]at f0 h0
       rw [←hn8]at f3 h1
       have H0:=Lib.hid h0
       have H1:=Lib.hid h1
       have HFY:=Lib.hid hfy
       have SN0:=Lib.hid hsn0
       have SN1:=Lib.hid hsn1
       have e1:=cell_lt f0
       obtain⟨zn,hzn⟩ : ∃z,z=(xv++yv).length:=⟨_,rfl⟩
       have HZN:=Lib.hid hzn
       have hrl:=rowUpto_len tr ⟨xv,xf,xt,xl⟩ L9 j
       obtain⟨ys,hys⟩ : ∃z,z=ys0++rowUpto tr ⟨xv,xf,xt,xl⟩ L9 j:=⟨_,rfl⟩
       have hyl:ys.length≤62000:=by rw [hys,List.length_append];have h1:=HYL.out;have h2:=HNV.out;have h3:=HLB.out;omega
       rw [←hys]at OI
       have HYJ:=Lib.hid hys
       have HYL2:=Lib.hid hyl
       clear h0 h1 z1 z2 hn7 hn8 hfy hsn0 hsn1 hzn hrl hys hyl
       go_wp2_with fail
       obtain⟨W6,hW6⟩ : ∃W6,W6=wr.alloc (.cells #[.slice p7 n7 k7,.int .i64 yf,.int .i64 yt,.slice p8 n8 k8] 96):=⟨_,rfl⟩
       have x6:Ext wr W6:=by rw [hW6];exact(Ext.refl wr).alloc _
       have X6:=Lib.hid x6
       obtain⟨yp,hyp⟩ : ∃z,z=wr.heap.size:=⟨_,rfl⟩
       try rw [←hyp]
       try rw [←hW6]
       clear hyp hW6 x6 f0 f1 f2 f3 b0 b1 b2 b3 eb e1 hd3
       refine(combine_any _ _ _ _ xv yv xl yl _ _ _ _ _ _ _ (G0.out.ext (HXI.out.trans X6.out).full) (H0.out.ext (HXI.out.trans X6.out).full) (G1.out.ext (HXI.out.trans X6.out).full) (H1.out.ext (HXI.out.trans X6.out).full) (Nat.le_trans HFX.out.1 (by decide)) (Nat.le_trans HFY.out.1 (by decide)) (Nat.le_trans HFX.out.2.2 (by decide)) (Nat.le_trans HFY.out.2.2 (by decide))).mono ?_
       rintro e w7 ⟨va,la,rfl,sv,sl,x7⟩
       obtain⟨q1,j1,rfl,_⟩:=sv.form
       obtain⟨q2,j2,rfl,_⟩:=sl.form
       rw [←HZN.out]at sv ⊢
       obtain⟨W5,nb,hW5,hnb,TB⟩ : ∃W5 nb,W5=_∧nb=_∧TupBox wr W5 nb (.slice q1 zn j1) (.slice q2 (mergeL xl yl).length j2) xf xt (xv++yv) (mergeL xl yl):=⟨_,_,rfl,rfl,box_alloc (T:=96) X6.out x7 sv sl⟩
       have g0:=TB.c0
       have g1:=TB.c1
       have g2:=TB.c2
       have g3:=TB.c3
       have e1:=cell_lt g0
       have BX:=Lib.hid TB
       clear TB sv sl x7
       go_wp2_with fail
       try rw [←hnb]
       try rw [←hW5]
       clear hW5 hnb
       have HRY:=Lib.hid HRR.out
       refine(isTrueE_any _ es pred _ (xv++yv) _ (HE.out.ext (X5.out.trans (HXI.out.trans BX.out.ext)).full) HEL.out (BX.out.sv.ext (on_sub _ _))).mono ?_
       rintro e w8 ⟨rfl,x8⟩
       rw [←HTR.out]
       have X8:=Lib.hid (BX.out.ext.trans x8)
       have OI8:=Lib.hid (OI.out.ext X8.out)
       have HXI8:=Lib.hid (HXI.out.trans X8.out)
       have b80:=X8.out.at BXI.out.1
       have b81:=X8.out.at BXI.out.2.1
       have b82:=X8.out.at BXI.out.2.2.1
       have b83:=X8.out.at BXI.out.2.2.2
       replace g0:=x8.at g0
       replace g1:=x8.at g1
       replace g2:=x8.at g2
       replace g3:=x8.at g3
       replace e1:=cell_lt g0
       have BXI8:=Lib.hid (show w8.cell? ⟨tp,0,none⟩=some (.slice p4 n4 k4)∧w8.cell? ⟨tp,1,none⟩=some (.int .i64 xf)∧w8.cell? ⟨tp,2,none⟩=some (.int .i64 xt)∧w8.cell? ⟨tp,3,none⟩=some (.slice p5 n5 k5)from ⟨b80,b81,b82,b83⟩)
       have HSUB:=Lib.hid (show ∀o,Sub (on W5 (fun k=>k≠nb∧wr.heap.size≤k)) (on (w8.alloc o) (avoid (fun _=>True) uq))from fun o=>(on_mono W5 (fun x _ hx=>⟨fun e=>by have h1:=(OI.out.lt x e.symm).2;omega,trivial⟩)).trans ((x8.trans ((Ext.refl w8).alloc o)).sub _))
       clear b80 b81 b82 b83 x8
       cases htv:tr (xv++yv)with
       |false =>
        have HJ:=Lib.hid (show ys0++rowUpto tr ⟨xv,xf,xt,xl⟩ L9 (j+1)=ys from by rw [SN1.out htv,HYJ.out])
        clear htv g0 g1 g2 g3 e1 HSUB
        go_wp2_with fail
        go_roundg (n9 - (j+1))
        case measure=>omega
        case rel=>exact⟨j+1,uq,by omega,rfl,by have:=HLB.out;go_num,rfl,by rw [HJ.out];exact OI8.out,HXI8.out,HUI.out,BXI8.out⟩
       |true =>
        have HJ:=Lib.hid (show ys0++rowUpto tr ⟨xv,xf,xt,xl⟩ L9 (j+1)=ys ++ [⟨xv++yv,xf,xt,mergeL xl yl⟩]from by rw [SN0.out htv,HYJ.out,List.append_assoc])
        have B1:ys.length+1≤maxLen:=by have:=HYL2.out;unfold maxLen;omega
        have B2:(ys.length+1)*64≤140737488355328:=by have:=HYL2.out;omega
        clear htv OI
        go_wp2_with (at_builtin;go_loud (refine wpList_append_one Rep.tup (fun _=>True) rfl _ _ 22 rfl w5.heap.size 96 i2 _ 64 Tryz.underlying22 hi2 hz20 hz21 hz22 rfl (by decide) uq ys rfl (OI8.out.ext ((Ext.refl w8).alloc _)) ⟨_,0,none⟩ 1 ⟨xv++yv,xf,xt,mergeL xl yl⟩ [.slice q1 zn j1,.int .i64 xf,.int .i64 xt,.slice q2 (mergeL xl yl).length j2] rfl ⟨_,_,rfl,BX.out.sv.ext (HSUB.out _),BX.out.sl.ext (HSUB.out _),HRY.out.1,HRY.out.2⟩ (by exact cells_new w8 [.slice q1 zn j1,.int .i64 xf,.int .i64 xt,.slice q2 (mergeL xl yl).length j2] _) B1 B2 (Nat.le_trans HXI8.out.size ((Ext.refl w8).alloc _).size) ?_))
        intro g8 cap8 w9 own8 gr8 hg8
        have x89:Ext w8 (w8.alloc (.cells #[.slice q1 zn j1,.int .i64 xf,.int .i64 xt,.slice q2 (mergeL xl yl).length j2] 96)):=(Ext.refl w8).alloc _
        have OI9:=Lib.hid own8
        have HXI9:=Lib.hid (ext_grown (HXI8.out.trans x89) gr8 (fun x hx=>(OI8.out.lt x hx).1))
        have c90:=cell_grown gr8 (x89.at BXI8.out.1) HUI.out
        have c91:=cell_grown gr8 (x89.at BXI8.out.2.1) HUI.out
        have c92:=cell_grown gr8 (x89.at BXI8.out.2.2.1) HUI.out
        have c93:=cell_grown gr8 (x89.at BXI8.out.2.2.2) HUI.out
        have C9:=Lib.hid (And.intro c90 (And.intro c91 (And.intro c92 c93)))
        have U9:=Lib.hid (show ∀x,(Value.slice (some ⟨g8,0,none⟩) (ys.length+1) cap8).ownBlock=some x→x≠tp from fun x hx=>by
         rcases hg8 with h | h
         ·exact HUI.out x (h.trans hx)
         ·have h2:g8=x:=Option.some.inj hx
          have h5:g8=w8.heap.size+1:=by rw [h];first | done | simp
          have h3:=cell_lt BXI8.out.1
          omega)
        clear x89 own8 gr8 hg8 c90 c91 c92 c93 g0 g1 g2 g3 e1 HSUB
        go_wp2_with fail
        go_roundg (n9 - (j+1))
        case measure=>omega
        case rel=>exact⟨j+1,_,by omega,rfl,by have:=HLB.out;go_num,rfl,by rw [HJ.out];exact OI9.out,HXI9.out,U9.out,C9.out⟩
      ·have hd3 : ¬(j:Int)<(n9:Int):=by omega
       have HFIN:=Lib.hid (show aliUpto tr A B (i+1)=ys0++rowUpto tr ⟨xv,xf,xt,xl⟩ L9 j from by
        rw [HST.out,HYS.out,HALL.out j (by have:=HNV.out;omega)])
       have OF:=Lib.hid (show OwnOf Rep.tup wr (fun _=>True) w5.heap.size 96 uq (aliUpto tr A B (i+1))from by rw [HFIN.out];exact OI.out)
       clear OI b0 b1 b2 b3 eb BXI HUI HFIN
       go_wp2_with fail
       go_roundg (M - (i+1))
       case measure=>omega
       case rel=>exact⟨i+1,uq,by omega,rfl,by go_num,rfl,OF.out,HXI.out⟩
    ·have hiM:i=M:=by omega
     have hd2 : ¬(i:Int)<(M:Int):=by omega
     have HFI:=Lib.hid (show aliUpto tr A B i=alignRaw tr A B from by unfold aliUpto alignRaw;rw [hiM,HMA.out,List.take_length])
     have s7:=OU.out.slice
     rw [HFI.out]at s7
     obtain⟨p7,c7,hv7,_⟩:=s7.form
     subst hv7
     have S7:=Lib.hid s7
     have HX7:=Lib.hid (X5.out.trans HX.out)
     have HLN:=Lib.hid (show (alignRaw tr A B).length≤65536 from Nat.le_trans (alignRaw_len tr A B) (Nat.le_trans (Nat.mul_le_mul HAL.out HBL.out) (by decide)))
     clear s7 hiM OU HX
     go_wp2_with fail
     refine(normalize_any _ (alignRaw tr A B) _ S7.out ⟨HLN.out,fun t ht=>by obtain⟨h1,h2,h3⟩:=align_fit HFA'.out HFB'.out t ht;exact⟨⟨by omega,h2⟩,by omega⟩⟩ (HT.out.ext HX7.out)).mono ?_
     rintro e w8 ⟨v8,rfl,t8,x8⟩
     have T8:=Lib.hid (show SliceOf Rep.tup (on w8 (since w)) v8 (normT (alignRaw tr A B))from t8.ext (on_mono _ fun k _ hk=>Nat.le_trans HX7.out.size hk))
     obtain⟨p8,c8,rfl,_⟩:=t8.form
     have X8:=Lib.hid (HX7.out.trans x8)
     clear t8 x8
     go_wp2_with fail
     go_ret
     exact⟨_,rfl,T8.out,X8.out⟩
end Go.Proofs.YtkddkbpoefidpaaGreatDoor
namespace Go.Proofs.YtkddkbpoefidpaaGreatDoor
open Go.RowKit
def nullW (width:Int):Nat:=(min (max width 0) 64).toNat
theorem nullW_le (width:Int):nullW width≤64:=by unfold nullW;omega
theorem nullW_int (width:Int):min (max width 0) 64=(nullW width:Int):=by unfold nullW;omega
theorem subs_len (t:Tup) (ps:List Per) (n:Nat) (h:ps.length≤n):(subPs [tupPer t] ps).length≤n+1:=by
 unfold subPs
 have h1:=refNorm_len ps
 have h2:=refNorm_len [tupPer t]
 have h3 : ∀l:List Per,(l.flatMap fun p=>subP1 p.to_ p.from_ (refNorm ps)).length≤l.length*(n+1):=fun l=>by
  induction l with
  |nil=>simp
  |cons p l ih =>
   rw [List.flatMap_cons,List.length_append,List.length_cons,Nat.succ_mul]
   have:=subP1_len p.to_ (refNorm ps) p.from_
   omega
 have h4:=h3 (refNorm [tupPer t])
 have h5:(refNorm [tupPer t]).length*(n+1)≤1*(n+1):=Nat.mul_le_mul_right _ h2
 omega
theorem partners_len (tr:List Val→Bool) (a b:List Tup) (k:Nat):(partners tr a b k).length≤a.length*b.length:=by
 unfold partners
 rw [List.length_map]
 exact Nat.le_trans (List.length_filter_le _ _) (pairs_len a b)
theorem padAt_len (tr:List Val→Bool) (W:Nat) (a b:List Tup) (k:Nat):(padAt tr W a b k).length≤(partners tr a b k).length+1:=by
 unfold padAt
 rw [List.length_map]
 exact subs_len _ _ _ (Nat.le_refl _)
theorem padUpto_len (tr:List Val→Bool) (W:Nat) (a b:List Tup) (k:Nat):(padUpto tr W a b k).length≤k+((List.range k).map fun i=>(partners tr a b i).length).sum:=by
 induction k with
 |zero=>exact Nat.zero_le _
 |succ k ih =>
  show (padUpto tr W a b k++padAt tr W a b k).length≤_
  rw [List.length_append,List.range_succ,List.map_append,List.sum_append,List.map_cons,List.map_nil,List.sum_cons,List.sum_nil]
  have:=padAt_len tr W a b k
  omega
open Classical in
theorem partners_sum (tr:List Val→Bool) (a b:List Tup) (k:Nat):((List.range k).map fun i=>(partners tr a b i).length).sum≤a.length*b.length:=by
 have h1:=filt_sum Pair.a (List.range k) (pairsOf a b) List.nodup_range
 have h2:=pairs_len a b
 have h3 : ∀l:List Nat,(l.map fun i=>(partners tr a b i).length).sum≤(l.map fun r=>((pairsOf a b).filter fun t=> @decide (t.a=r) (Classical.propDecidable _)).length).sum:=fun l=>by
  induction l with
  |nil=>exact Nat.le_refl _
  |cons i l ih =>
   rw [List.map_cons,List.sum_cons,List.map_cons,List.sum_cons]
   have:(partners tr a b i).length≤((pairsOf a b).filter fun t=> @decide (t.a=i) (Classical.propDecidable _)).length:=by
    unfold partners
    rw [List.length_map,←List.countP_eq_length_filter,←List.countP_eq_length_filter]
    refine List.countP_mono_left fun x _ h=> ?_
    simp only [Bool.and_eq_true,decide_eq_true_eq]at h
    exact @decide_eq_true _ (Classical.propDecidable _) h.1
   omega
 exact Nat.le_trans (h3 _) (Nat.le_trans h1 h2)
theorem pad_len (tr:List Val→Bool) (W:Nat) (a b:List Tup) (k:Nat) (ha:a.length≤100) (hb:b.length≤100) (hk:k≤100):(padUpto tr W a b k).length≤10100:=by
 have h1:=padUpto_len tr W a b k
 have h2:=partners_sum tr a b k
 have h3:a.length*b.length≤100*100:=Nat.mul_le_mul ha hb
 omega
theorem nulls_flat (x y z:Value) (N:Nat):(madeCells #[x,y,z] (N*3)).toList=(List.replicate N [x,y,z]).flatten:=by
 induction N with
 |zero=>simp [madeCells]
 |succ N ih =>
  rw [List.replicate_succ',List.flatten_append,←ih]
  unfold madeCells
  rw [Array.toList_map,Array.toList_map,Array.toList_range,Array.toList_range,show (N+1)*3=N*3+1+1+1 by omega,List.range_succ,List.range_succ,List.range_succ,List.map_append,List.map_append,List.map_append,List.append_assoc,List.append_assoc]
  congr 1
  have e0:(N*3) % 3=0:=by omega
  have e1:(N*3+1) % 3=1:=by omega
  have e2:(N*3+1+1) % 3=2:=by omega
  simp [e0,e1,e2]
theorem rep_replicate {α:Type} {R:Rep α} {h:View} {c:List Value} {x:α} (hc:R.holds h c x) (n:Nat):RepAll R h (List.replicate n c) (List.replicate n x):=by
 induction n with
 |zero=>trivial
 |succ n ih=>exact⟨hc,ih⟩
theorem left_fit {tr:List Val→Bool} {W:Nat} {a b:List Tup} (ha:fewT a) (hb:fewT b) (hW:W≤64) : ∀t∈leftRaw tr W a b,t.vals.length≤2000∧(∀x∈t.vals,x.s.size≤1048576)∧t.lin.length≤2000:=by
 intro t ht
 unfold leftRaw at ht
 rcases List.mem_append.1 ht with ht | ht
 ·exact join_fit ha hb t ht
 ·have key : ∀k,t∈padUpto tr W a b k→t.vals.length≤2000∧(∀x∈t.vals,x.s.size≤1048576)∧t.lin.length≤2000:=fun k=>by
   induction k with
   |zero=>intro h;cases h
   |succ k ih =>
    intro h
    rcases List.mem_append.1 (show t∈padUpto tr W a b k++padAt tr W a b k from h)with h | h
    ·exact ih h
    ·unfold padAt at h
     obtain⟨p,_,rfl⟩:=List.mem_map.1 h
     obtain⟨h1,h2,h3⟩:=ha.getD k
     refine⟨?_,fun x hx=> ?_,?_⟩
     ·show ((a.getD k tupD).vals++List.replicate W nV).length≤_
      rw [List.length_append,List.length_replicate];omega
     ·rcases List.mem_append.1 (show x∈(a.getD k tupD).vals++List.replicate W nV from hx)with hx | hx
      ·exact h2 x hx
      ·rw [List.eq_of_mem_replicate hx];exact Nat.zero_le _
     ·show (a.getD k tupD).lin.length≤_
      omega
  exact key _ ht
set_option maxRecDepth 100000 in
set_option maxHeartbeats 8000000 in
theorem leftOuter_any (va vb:Value) (a b:List Tup) (ve:Value) (es:List ExprI) (pred width:Int) (w:World) (ha:SliceOf Rep.tup w.cell? va a) (hb:SliceOf Rep.tup w.cell? vb b) (hla:a.length≤100) (hlb:b.length≤100)
  (he:SliceOf Rep.expr w.cell? ve es) (hel:es.length≤1000) (hfa:fewT a) (hfb:fewT b) (hT:TabW w) :
  Calls Tryz.prog 25 #[va,vb,ve,.int .i64 pred,.int .i64 width] w fun e w'=> ∃v',e = .returned v'∧SliceOf Rep.tup (on w' (since w)) v' (leftT (trE es pred) (nullW width) a b)∧Ext w w':=by
 obtain⟨i1,hi1,hz10,hz11,hz12⟩:=info_parts info_per
 obtain⟨i2,hi2,hz20,hz21,hz22⟩:=info_parts infoTup
 obtain⟨i3,hi3,hz30,hz31,hz32⟩:=info_parts info_val3
 have HM:=Lib.hid (matches_any va vb a b ve es pred w ha hb hla hlb he hel hfa.long hfb.long)
 obtain⟨pa,ca,rfl,ha1,ha2,ha3⟩:=ha.form
 obtain⟨pb,cb,rfl,_⟩:=hb.form
 obtain⟨pe,ce,rfl,_⟩:=he.form
 have HT:=Lib.hid hT
 have HA:=Lib.hid ha
 obtain⟨n,hn⟩ : ∃n,n=a.length:=⟨_,rfl⟩
 rw [←hn]at HM HA ha3 hla ⊢
 have HN:=Lib.hid hn
 have HPA:=Lib.hid ha3
 have HFA:=Lib.hid hfa
 have HFB:=Lib.hid hfb
 have HLB:=Lib.hid hlb
 obtain⟨tr,htr⟩ : ∃tr,tr=trE es pred:=⟨_,rfl⟩
 rw [←htr]at HM ⊢
 obtain⟨js,hjs⟩ : ∃js,js=joinRaw tr a b:=⟨_,rfl⟩
 rw [←hjs]at HM
 have HJS:=Lib.hid hjs
 have hjl:js.length≤10000:=by rw [hjs];exact Nat.le_trans (joinRaw_len tr a b) (Nat.mul_le_mul (show a.length≤100 by omega) hlb)
 have hwi:=nullW_int width
 have hwl:=nullW_le width
 obtain⟨N,hN⟩ : ∃N,N=nullW width:=⟨_,rfl⟩
 rw [←hN]at hwi hwl ⊢
 have HJL:=Lib.hid hjl
 have HWI:=Lib.hid hwi
 clear ha hb he hT hn ha1 ha2 ha3 hfa hfb hlb htr hjs hjl hwi hN
 go_enter Tryz.func25,Tryz.ntmps25
 go_wp2_with fail
 refine HM.out.mono ?_
 rintro e w1 ⟨u1,qb,f1,S1,base,rfl,hbase,ho1,hm1,x1⟩
 have hparts:=hm1.parts (by unfold maxLen;omega)
 have OW1:=Lib.hid (ho1.weak (S:=S1) (T:=fun _=>True) (base':=base) (fun _ _ _=>trivial) (Nat.le_refl _))
 have PW1:=Lib.hid hparts
 have HUB:=Lib.hid (show ∀x,u1.ownBlock=some x→w.heap.size≤x from fun x hx=>Nat.le_trans hbase (ho1.base x hx))
 have HQB:=Lib.hid (show u1.ownBlock≠some qb from fun e=>by have h1:=hm1.out.base qb e;have h2:=hm1.lo;omega)
 have HBW:=Lib.hid (show w.heap.size≤base∧base≤w1.heap.size from ⟨hbase,hm1.hi⟩)
 have X1:=Lib.hid x1
 clear hparts ho1 hm1 x1 hbase HM
 go_wp2_with (at_make;go_loud (refine wpList_make_full _ rfl _ _ 68 rfl w1.heap.size 73 i3 _ 3 Tryz.underlying68 hi3 hz30 hz31 .i64 .i64 _ _ N rfl rfl HWI.out HWI.out (by rw [hz32];omega) (by unfold maxLen;omega) (by simp) ?_))
 intro w2 own2 gr2
 have X12:=Lib.hid (show Ext w1 w2 from ext_grown (Ext.refl w1) gr2 (fun k hk=>by cases hk))
 obtain⟨nb,hnb⟩ : ∃z,z=w1.heap.size:=⟨_,rfl⟩
 have hnul:SliceOf Rep.val (on w2 (fun k=>w1.heap.size≤k)) (.slice (some ⟨w1.heap.size,0,none⟩) N N) (List.replicate N nV):=by
  have hval:Rep.val.holds w2.cell? [.int .i64 0,.int .i64 0,.string ByteArray.empty] nV:=⟨rfl,ok_nV⟩
  have h:OwnOf Rep.val w2 (fun _=>True) w1.heap.size 73 (.slice (some ⟨w1.heap.size,0,none⟩) N N) (List.replicate N nV):=⟨_,(rep_replicate hval N).flatView flat_val,by rw [List.length_replicate,←nulls_flat];exact own2⟩
  exact h.fresh flat_val
 have NUL:=Lib.hid (show SliceOf Rep.val (on w2 (fun k=>u1.ownBlock≠some k)) (.slice (some ⟨nb,0,none⟩) N N) (List.replicate N nV)from by
  rw [hnb]
  exact hnul.ext (on_mono w2 fun k _ hk e=>by have:=(OW1.out.lt k e).2;have hk:w1.heap.size≤k:=hk;omega))
 have OW2:=Lib.hid (OW1.out.ext X12.out)
 have PW2:=Lib.hid (PW1.out.ext (X12.out.sub _))
 have X2:=Lib.hid (X1.out.trans X12.out)
 have HB2:=Lib.hid (show w.heap.size≤base∧base≤w2.heap.size from ⟨HBW.out.1,Nat.le_trans HBW.out.2 X12.out.size⟩)
 rw [←hnb]
 clear own2 gr2 hnul hnb OW1 PW1 X1 X12 HBW HWI
 go_wp2_with fail
 go_loopg [11,32] n (fun gk vo vi wr=> ∃(k:Nat) (u:Value),k≤n∧gk=n - k∧vi = .int .i64 k∧u=vo∧Hid (OwnOf Rep.tup wr (fun _=>True) base 96 u (js++padUpto tr N a b k))∧Hid (Chg (fun x=>u1.ownBlock=some x) w2 wr)∧Hid (∀x,u.ownBlock=some x→u1.ownBlock=some x∨w2.heap.size≤x))
 case atStart=>exact⟨0,_,by omega,rfl,rfl,rfl,by show OwnOf _ _ _ _ _ _ (js ++ []);rw [List.append_nil];exact OW2.out,Chg.refl _ _,fun x hx=> .inl hx⟩
 case round =>
  clear OW2
  obtain⟨k,u,hk,rfl,rfl,rfl,OU,HC,HU⟩:=hrel
  have hxw:Ext w wr:=Chg.below HC.out X2.out (fun x e=>HUB.out x e)
  have HXW:=Lib.hid hxw
  by_cases hlt:k<n
  ·have hkl:k<a.length:=by have:=HN.out;omega
   obtain⟨ba,oa,rfl⟩:=HPA.out (by decide) (by omega)
   have hd:decide ((k:Int)<(n:Int))=true:=by simp;omega
   have hkI:(k:Int)<(n:Int):=by omega
   obtain⟨xa,xb,c0,c1,c2,c3,ga,gb,r1,r2⟩:=tup_at (by have h:=HA.out;rw [HN.out]at h;exact h) k hkl
   have hfx:=HFA.out a[k] (List.getElem_mem hkl)
   have hpa:padAt tr N a b k=(subPs [tupPer a[k]] (partners tr a b k)).map (tupOf (padRow N (tupRow a[k]))):=by
    unfold padAt
    rw [getD_some (List.getElem?_eq_getElem hkl)]
   have hst:padUpto tr N a b (k+1)=padUpto tr N a b k++padAt tr N a b k:=rfl
   rw [hpa]at hst
   have hyl:=pad_len tr N a b k (by have:=HN.out;omega) HLB.out (by omega)
   have hpl:=partners_len tr a b k
   have hpl2:a.length*b.length≤100*100:=Nat.mul_le_mul (by have:=HN.out;omega) HLB.out
   obtain⟨cp,hcp1,hcp2,hcp3⟩:=(show ∃cp,(on w2 fun k=>u1.ownBlock≠some k) ⟨qb,k,none⟩=some cp∧SliceOf Rep.per (on w2 fun k=>u1.ownBlock≠some k) cp (partners tr a b k)∧True from by
    have h:=PW2.out
    have hl:((List.range n).map (partners tr a b)).length=n:=by simp
    obtain⟨c,⟨v,rfl,hv⟩,h2⟩:=SliceOf.at (by have h2:=h;rwa [←hl]at h2) k (by rw [hl];omega)
    refine⟨v,?_,?_,trivial⟩
    ·have:=h2 0 v rfl
     simpa [Rep.slice] using this
    ·simpa using hv)
   clear hcp3 hpa
   generalize partners tr a b k=P9 at hcp2 hst hpl
   generalize a[k]=x at c1 c2 ga gb r1 r2 hfx hst
   obtain⟨xv,xf,xt,xl⟩:=x
   dsimp only [tupPer,tupRow]at c0 c1 c2 c3 ga gb r1 r2 hfx hst
   replace c0:=hxw.at c0
   replace c1:=hxw.at c1
   replace c2:=hxw.at c2
   replace c3:=hxw.at c3
   obtain⟨hcn,hcp1⟩:=on_some.1 hcp1
   replace hcp1:=HC.out.at hcp1 (fun e=>hcn e)
   obtain⟨p9,c9,rfl,_⟩:=hcp2.form
   obtain⟨n9,hn9⟩ : ∃z,z=P9.length:=⟨_,rfl⟩
   rw [←hn9]at hcp1 hcp2
   obtain⟨p1,k1,rfl,_⟩:=ga.form
   obtain⟨p2,k2,rfl,_⟩:=gb.form
   obtain⟨xn,hxn⟩ : ∃z,z=xv.length:=⟨_,rfl⟩
   obtain⟨ln,hln⟩ : ∃z,z=xl.length:=⟨_,rfl⟩
   rw [←hxn]at c0 ga
   rw [←hln]at c3 gb
   have GA:=Lib.hid ga
   have GB:=Lib.hid gb
   have HXN:=Lib.hid hxn
   have HPS:=Lib.hid (hcp2.chg HC.out (fun k hk e=>hk e))
   have HPL:=Lib.hid (show P9.length≤10000 from by omega)
   have HRR:=Lib.hid (And.intro r1 r2)
   have HFX:=Lib.hid hfx
   have HST:=Lib.hid hst
   obtain⟨ys0,hys0⟩ : ∃z,z=js++padUpto tr N a b k:=⟨_,rfl⟩
   have hys1:ys0.length≤20100:=by rw [hys0,List.length_append];have:=HJL.out;omega
   rw [←hys0]at OU
   have HYS:=Lib.hid hys0
   have HYL:=Lib.hid hys1
   have e0:=cell_lt c0
   have e1:=cell_lt hcp1
   clear ga gb hfx hst hyl hpl hpl2 hcn hcp2 hn9 hxn hln hys0 hys1 r1 r2 hkl hxw
   go_wp2_with fail
   obtain⟨tp,htp⟩ : ∃z,z=wr.heap.size:=⟨_,rfl⟩
   obtain⟨W3,hW3⟩ : ∃W3,W3=wr.alloc (.cells #[.slice p1 xn k1,.int .i64 xf,.int .i64 xt,.slice p2 ln k2] 96):=⟨_,rfl⟩
   have x3:Ext wr W3:=by rw [hW3];exact(Ext.refl wr).alloc _
   have hS0:Ext wr W3.drew∧W3.drew.cell? ⟨tp,0,none⟩=some (.slice p1 xn k1)∧W3.drew.cell? ⟨tp,1,none⟩=some (.int .i64 xf)∧W3.drew.cell? ⟨tp,2,none⟩=some (.int .i64 xt)∧W3.drew.cell? ⟨tp,3,none⟩=some (.slice p2 ln k2)∧W3.drew.cell? ⟨qb,k,none⟩=some (.slice p9 n9 c9):=by
    rw [htp,hW3]
    exact⟨((Ext.refl wr).alloc _).drew,(by go_simp),(by go_simp),(by go_simp),(by go_simp),((Ext.refl wr).alloc _).drew.at hcp1⟩
   have HTP:=Lib.hid htp
   have X3:=Lib.hid x3
   have HLIT:=Lib.hid (show SliceOf Rep.per (W3.alloc (.cells #[.int .i64 xf,.int .i64 xt] 94)).drew.cell? (.slice (some ⟨W3.heap.size,0,none⟩) 1 1) [⟨xf,xt⟩]from (slice_lit Rep.per W3 [.int .i64 xf,.int .i64 xt] 94 [[.int .i64 xf,.int .i64 xt]] [⟨xf,xt⟩] rfl ⟨⟨rfl,HRR.out⟩,trivial⟩ (by simp [maxLen])).ext (Ext.refl _).drew.full)
   try rw [←htp]
   try rw [←hW3]
   have hknI:=hkI
   clear hW3 htp x3 c0 c1 c2 c3 hcp1 e0 e1 hd
   go_region_held3 (fun w'=>Ext wr w'∧w'.cell? ⟨tp,0,none⟩=some (.slice p1 xn k1)∧w'.cell? ⟨tp,1,none⟩=some (.int .i64 xf)∧w'.cell? ⟨tp,2,none⟩=some (.int .i64 xt)∧w'.cell? ⟨tp,3,none⟩=some (.slice p2 ln k2)∧w'.cell? ⟨qb,k,none⟩=some (.slice p9 n9 c9))
    (first |with_reducible assumption | with_reducible exact keepE5 (by assumption) x5 | exact keepE5 hS0 ((Ext.refl W3).alloc _).drew.ofDrew | with_reducible exact keepE5 (by assumption) ((Ext.refl _).alloc _))
    (first
     |(go_at_call 76;refine(subtract_any _ _ [⟨xf,xt⟩] P9 _ HLIT.out (by first | exact(HPS.out.ext (on_sub _ _)).ext (X3.out.alloc _).drew.full) (by simp) (by have:=HPL.out;omega)).mono ?_;rintro e w5 ⟨v5,rfl,o5,x5⟩;obtain⟨p5,c5,rfl,_⟩:=o5.slice.form))
   all_goals
    have k5:= ‹Ext wr (_:World)∧_›
    obtain⟨D,hD⟩ : ∃z,z=subPs [⟨xf,xt⟩] P9:=⟨_,rfl⟩
    have hDl:D.length≤10001:=by rw [hD];exact subs_len ⟨xv,xf,xt,xl⟩ P9 10000 HPL.out
    rw [←hD]at o5 ⊢
    obtain⟨nd,hnd⟩ : ∃z,z=D.length:=⟨_,rfl⟩
    have hfr5:=o5.fresh flat_per
    have hsz5:(W3.alloc (.cells #[.int .i64 xf,.int .i64 xt] 94)).drew.heap.size=W3.heap.size+1:=by simp
    rw [hsz5]at hfr5
    rw [←hnd]at hfr5
    rw [←hnd]at hDl ⊢
    have hDS:SliceOf Rep.per (on w5 (fun k=>wr.heap.size≤k)) (.slice p5 nd c5) D:=hfr5.ext (on_mono w5 fun k _ hk=>by have h1:=X3.out.size;have hk:W3.heap.size+1≤k:=hk;show wr.heap.size≤k;omega)
    have hDF:=hDS.form
    have DS:=Lib.hid hDS
    have HD:=Lib.hid hD
    have HND:=Lib.hid hnd
    have HDB:=Lib.hid (show 0<nd→ ∃b o,p5=some ⟨b,o,none⟩from fun h=>by
     obtain⟨a',c',e,_,_,hp⟩:=hDF
     injection e with e1 _ _
     obtain⟨b,o,hbo⟩:=hp (by decide) (by omega)
     exact⟨b,o,by rw [e1];exact hbo⟩)
    have BX:=Lib.hid (show w5.cell? ⟨tp,0,none⟩=some (.slice p1 xn k1)∧w5.cell? ⟨tp,3,none⟩=some (.slice p2 ln k2)from ⟨k5.2.1,k5.2.2.2.2.1⟩)
    have X5:=Lib.hid k5.1
    have OU5:=Lib.hid (OU.out.ext X5.out)
    have HC5:=Lib.hid (HC.out.ext X5.out)
    have HU5:=Lib.hid (show ∀x,u.ownBlock=some x→x<wr.heap.size from fun x hx=>(OU.out.lt x hx).2)
    clear k5 o5 x5 hfr5 hsz5 hDS hDF hD hnd HPS OU HC HLIT X3
    go_wp2_with fail
    obtain⟨wo,rfl⟩ : ∃z,z=wr:=⟨_,rfl⟩
    go_loopg [11,46] nd (fun gj vo vi wq=> ∃(j:Nat) (uq:Value),j≤nd∧gj=nd - j∧vi = .int .i64 j∧uq=vo∧Hid (OwnOf Rep.tup wq (fun _=>True) base 96 uq (ys0++(D.take j).map (tupOf (padRow N ⟨xv,xl⟩))))∧Hid (Chg (fun x=>u1.ownBlock=some x) w2 wq)∧Hid (Chg (fun x=>x<wo.heap.size) w5 wq)∧Hid (∀x,uq.ownBlock=some x→(u1.ownBlock=some x∨w2.heap.size≤x)∧(x<wo.heap.size∨w5.heap.size≤x)))
    case atStart=>exact⟨0,u,by omega,rfl,rfl,rfl,by rw [List.take_zero,List.map_nil,List.append_nil];exact OU5.out,HC5.out,Chg.refl _ _,fun x hx=>⟨HU.out x hx,.inl (HU5.out x hx)⟩⟩
    case round =>
     clear OU5 HC5 HU5
     obtain⟨j,uq,hj,rfl,rfl,rfl,OI,HCI,HCJ,HUI⟩:=hrel
     have hxq:Ext w wr:=Chg.below HCI.out X2.out (fun x e=>HUB.out x e)
     have HXQ:=Lib.hid hxq
     have htw:wo.heap.size≤tp:=by rw [HTP.out];exact Nat.le_refl _
     have b0:=HCJ.out.at BX.out.1 (fun h=>by have h:tp<wo.heap.size:=h;omega)
     have b3:=HCJ.out.at BX.out.2 (fun h=>by have h:tp<wo.heap.size:=h;omega)
     have eb:=cell_lt b0
     by_cases hjl:j<nd
     ·have hjr:j<D.length:=by have:=HND.out;omega
      obtain⟨bd,od,rfl⟩:=HDB.out (by omega)
      have htk:D.take (j+1)=D.take j ++ [D[j]]:=List.take_succ_eq_append_getElem hjr
      obtain⟨c0,c1,rq1,rq2⟩:=per_at (by have h:=DS.out;rw [HND.out]at h;exact h) j hjr
      generalize D[j]=q at c0 c1 rq1 rq2 htk
      obtain⟨pf,pt⟩:=q
      dsimp only at c0 c1 rq1 rq2
      obtain⟨s0,c0⟩:=on_some.1 c0
      obtain⟨s1,c1⟩:=on_some.1 c1
      replace c0:=HCJ.out.at c0 (fun h=>by have h:bd<wo.heap.size:=h;have s0:wo.heap.size≤bd:=s0;omega)
      replace c1:=HCJ.out.at c1 (fun h=>by have h:bd<wo.heap.size:=h;have s0:wo.heap.size≤bd:=s0;omega)
      have hd:decide ((j:Int)<(nd:Int))=true:=by simp;omega
      have e0:=cell_lt c0
      have HTK:=Lib.hid htk
      have HQQ:=Lib.hid (And.intro rq1 rq2)
      have hyj:(ys0++(D.take j).map (tupOf (padRow N ⟨xv,xl⟩))).length≤30200:=by
       rw [List.length_append,List.length_map,List.length_take]
       have:=HYL.out
       omega
      obtain⟨ys,hys⟩ : ∃z,z=ys0++(D.take j).map (tupOf (padRow N ⟨xv,xl⟩)):=⟨_,rfl⟩
      rw [←hys]at OI hyj
      have HYJ:=Lib.hid hys
      have HUL:=Lib.hid (show ∀x,uq.ownBlock=some x→w.heap.size≤x∧x<wr.heap.size from fun x hx=>⟨Nat.le_trans HB2.out.1 (OI.out.lt x hx).1,(OI.out.lt x hx).2⟩)
      have B1:ys.length+1≤maxLen:=by unfold maxLen;omega
      have B2:(ys.length+1)*64≤140737488355328:=by omega
      have HUT:=Lib.hid (show ∀x,uq.ownBlock=some x→x≠tp from fun x hx e=>by have h1:=(HUI.out x hx).2;have h2:=HTP.out;have h3:=X5.out.size;have h4:=cell_lt BX.out.1;omega)
      clear htk rq1 rq2 s0 s1 hyj hys hxq hjr hknI
      go_wp2_with fail
      obtain⟨bq,hbq⟩ : ∃z,z=wr.heap.size:=⟨_,rfl⟩
      obtain⟨W6,hW6⟩ : ∃W6,W6=wr.alloc (.cells #[.int .i64 pf,.int .i64 pt] 94):=⟨_,rfl⟩
      have x6:Ext wr W6:=by rw [hW6];exact(Ext.refl wr).alloc _
      have hS0:Ext w W6.drew∧W6.drew.cell? ⟨tp,0,none⟩=some (.slice p1 xn k1)∧W6.drew.cell? ⟨tp,3,none⟩=some (.slice p2 ln k2)∧W6.drew.cell? ⟨bq,0,none⟩=some (.int .i64 pf)∧W6.drew.cell? ⟨bq,1,none⟩=some (.int .i64 pt):=by
       rw [hbq,hW6]
       exact⟨(HXQ.out.alloc _).drew,((Ext.refl wr).alloc _).drew.at b0,((Ext.refl wr).alloc _).drew.at b3,(by go_simp),(by go_simp)⟩
      have HBQ:=Lib.hid hbq
      have X6:=Lib.hid x6
      have HLV:=Lib.hid (show SliceOf (Rep.slice Rep.val) (W6.alloc (.cells #[.slice p1 xn k1,.slice (some ⟨nb,0,none⟩) N N] 68)).drew.cell? (.slice (some ⟨W6.heap.size,0,none⟩) 2 2) [xv,List.replicate N nV]from
       (slice_lit (Rep.slice Rep.val) W6 [.slice p1 xn k1,.slice (some ⟨nb,0,none⟩) N N] 68 [[.slice p1 xn k1],[.slice (some ⟨nb,0,none⟩) N N]] [xv,List.replicate N nV] rfl ⟨⟨_,rfl,GA.out.ext (HXQ.out.trans (X6.out.alloc _)).full⟩,⟨_,rfl,((NUL.out.chg HCI.out (fun k hk e=>hk e)).ext (on_sub _ _)).ext (X6.out.alloc _).full⟩,trivial⟩ (by simp [maxLen])).ext (Ext.refl _).drew.full)
      obtain⟨zn,hzn⟩ : ∃z,z=(xv++List.replicate N nV).length:=⟨_,rfl⟩
      have HZN:=Lib.hid hzn
      have HFL:=Lib.hid (show ([xv,List.replicate N nV]:List (List Val)).flatten=xv++List.replicate N nV from by simp)
      try rw [←hbq]
      try rw [←hW6]
      clear hW6 hbq x6 c0 c1 b0 b3 e0 eb hd hzn
      go_region_held3 (fun w'=>Ext w w'∧w'.cell? ⟨tp,0,none⟩=some (.slice p1 xn k1)∧w'.cell? ⟨tp,3,none⟩=some (.slice p2 ln k2)∧w'.cell? ⟨bq,0,none⟩=some (.int .i64 pf)∧w'.cell? ⟨bq,1,none⟩=some (.int .i64 pt))
       (first |with_reducible assumption | with_reducible exact keepE4 (by assumption) x7 | exact keepE4 hS0 ((Ext.refl W6).alloc _).drew.ofDrew | with_reducible exact keepE4 (by assumption) ((Ext.refl _).alloc _) | with_reducible exact K8)
       (first
        |(go_at_call 77;refine(concat_val _ [xv,List.replicate N nV] _ HLV.out (by rw [HFL.out,List.length_append,List.length_replicate];have:=HFX.out.1;omega)).mono ?_;rintro e w7 ⟨v7,rfl,o7,x7⟩;rw [HFL.out]at o7;have S7:=Lib.hid (o7.fresh flat_val);obtain⟨q6,j6,rfl,_⟩:=o7.slice.form;rw [←HZN.out]at S7 ⊢;have X7:=Lib.hid (show Ext W6 w7 from ((Ext.refl W6).alloc _).drew.trans x7);have K7:Ext w w7∧w7.cell? ⟨tp,0,none⟩=some (.slice p1 xn k1)∧w7.cell? ⟨tp,3,none⟩=some (.slice p2 ln k2)∧w7.cell? ⟨bq,0,none⟩=some (.int .i64 pf)∧w7.cell? ⟨bq,1,none⟩=some (.int .i64 pt):=keepE4 hS0 (((Ext.refl W6).alloc _).drew.ofDrew.trans x7);clear o7)
        |(refine step_append_one Rep.tup (fun _=>True) rfl _ _ 22 rfl base 96 i2 _ 64 Tryz.underlying22 hi2 hz20 hz21 hz22 rfl (by decide) uq ys rfl (by exact OI.out.ext ((X6.out.trans X7.out).alloc _)) ⟨_,0,none⟩ 1 ⟨xv++List.replicate N nV,pf,pt,xl⟩ [.slice q6 zn j6,.int .i64 pf,.int .i64 pt,.slice p2 ln k2] rfl (by exact⟨_,_,rfl,S7.out.ext ((on_mono w7 fun x _ hx=>⟨fun e=>by(have h1:=(HUL.out x e.symm).2;have h2:=X6.out.size;simp at hx;omega),trivial⟩).trans (((Ext.refl w7).alloc _).sub _)),GB.out.away flat_int (HXQ.out.trans ((X6.out.trans X7.out).alloc _)) (fun x hx=>(HUL.out x hx).1),HQQ.out.1,HQQ.out.2⟩) (by exact cells_new _ [.slice q6 zn j6,.int .i64 pf,.int .i64 pt,.slice p2 ln k2] _) B1 B2 (by exact Nat.le_trans HB2.out.2 (Nat.le_trans HCI.out.size ((X6.out.trans X7.out).alloc (.cells [.slice q6 zn j6,.int .i64 pf,.int .i64 pt,.slice p2 ln k2].toArray 96)).size)) ?_;intro g8 cap8 w8 own8 gr8 hg8;have X7a:=(X6.out.trans X7.out).alloc (.cells [.slice q6 zn j6,.int .i64 pf,.int .i64 pt,.slice p2 ln k2].toArray 96);have hub8 : ∀x,uq.ownBlock=some x→x≠bq:=(fun x hx e=>by have h1:=(HUL.out x hx).2;have h2:=HBQ.out;omega);have K8:Ext w w8∧w8.cell? ⟨tp,0,none⟩=some (.slice p1 xn k1)∧w8.cell? ⟨tp,3,none⟩=some (.slice p2 ln k2)∧w8.cell? ⟨bq,0,none⟩=some (.int .i64 pf)∧w8.cell? ⟨bq,1,none⟩=some (.int .i64 pt):=⟨ext_grown (HXQ.out.trans X7a) gr8 (fun x hx=>(HUL.out x hx).1),cell_grown gr8 (((Ext.refl w7).alloc _).at K7.2.1) HUT.out,cell_grown gr8 (((Ext.refl w7).alloc _).at K7.2.2.1) HUT.out,cell_grown gr8 (((Ext.refl w7).alloc _).at K7.2.2.2.1) hub8,cell_grown gr8 (((Ext.refl w7).alloc _).at K7.2.2.2.2) hub8⟩))
      all_goals
       have OU9:=Lib.hid (show OwnOf Rep.tup w8 (fun _=>True) base 96 (.slice (some ⟨g8,0,none⟩) (ys.length+1) cap8) (ys0++(D.take (j+1)).map (tupOf (padRow N ⟨xv,xl⟩)))from by rw [HTK.out,List.map_append,←List.append_assoc,←HYJ.out];exact own8)
       have C9:=Lib.hid ((HCI.out.ext X7a).grown gr8 (fun x hx=>(HUI.out x hx).1))
       have D9:=Lib.hid ((HCJ.out.ext X7a).grown gr8 (fun x hx=>(HUI.out x hx).2))
       have U9:=Lib.hid (show ∀x,(Value.slice (some ⟨g8,0,none⟩) (ys.length+1) cap8).ownBlock=some x→(u1.ownBlock=some x∨w2.heap.size≤x)∧(x<wo.heap.size∨w5.heap.size≤x)from fun x hx=>by
        rcases hg8 with h | h
        ·exact HUI.out x (h.trans hx)
        ·have h2:g8=x:=Option.some.inj hx
         have h3:wr.heap.size≤g8:=by rw [h];exact X7a.size
         have h4:=HCI.out.size
         have h5:=HCJ.out.size
         exact⟨.inr (by omega),.inr (by omega)⟩)
       clear own8 gr8 hg8 K8 K7 X7a hS0 hub8 x7
       go_wp2_with fail
       go_roundg (nd - (j+1))
       case measure=>omega
       case rel=>exact⟨j+1,_,by omega,rfl,by go_num,rfl,OU9.out,C9.out,D9.out,U9.out⟩
     ·have hd : ¬(j:Int)<(nd:Int):=by omega
      have HFIN:=Lib.hid (show js++padUpto tr N a b (k+1)=ys0++(D.take j).map (tupOf (padRow N ⟨xv,xl⟩))from by
       rw [HST.out,←List.append_assoc,←HYS.out,←HD.out,List.take_of_length_le (by have:=HND.out;omega)])
      have OF:=Lib.hid (show OwnOf Rep.tup wr (fun _=>True) base 96 uq (js++padUpto tr N a b (k+1))from by rw [HFIN.out];exact OI.out)
      clear OI b0 b3 eb hxq HCJ hknI
      go_wp2_with fail
      go_roundg (n - (k+1))
      case measure=>omega
      case rel=>exact⟨k+1,uq,by omega,rfl,by go_num,rfl,OF.out,HCI.out,fun x hx=>(HUI.out x hx).1⟩
  ·have hkN:k=n:=by omega
   have hd : ¬(k:Int)<(n:Int):=by omega
   have HFI:=Lib.hid (show js++padUpto tr N a b k=leftRaw tr N a b from by unfold leftRaw;rw [hkN,HN.out,HJS.out])
   have HLN:=Lib.hid (show (leftRaw tr N a b).length≤65536 from by
    have h1:=pad_len tr N a b k (by have:=HN.out;omega) HLB.out (by omega)
    have h2:=HJL.out
    rw [←HFI.out,List.length_append]
    omega)
   have s1:=OU.out.slice
   rw [HFI.out]at s1
   obtain⟨p1,c1,hv1,_⟩:=s1.form
   subst hv1
   have S1':=Lib.hid s1
   clear s1 hkN OU HC HU
   go_wp2_with fail
   refine(normalize_any _ (leftRaw tr N a b) _ S1'.out ⟨HLN.out,fun t ht=>by obtain⟨h1,h2,h3⟩:=left_fit HFA.out HFB.out (by omega) t ht;exact⟨⟨by omega,h2⟩,by omega⟩⟩ (HT.out.ext HXW.out)).mono ?_
   rintro e w4 ⟨v4,rfl,t4,x4⟩
   have T4:=Lib.hid (show SliceOf Rep.tup (on w4 (since w)) v4 (leftT tr N a b)from t4.ext (on_mono _ fun k _ hk=>Nat.le_trans HXW.out.size hk))
   obtain⟨p4,c4,rfl,_⟩:=t4.form
   have X4:=Lib.hid (HXW.out.trans x4)
   clear t4 x4
   go_wp2_with fail
   go_ret
   exact⟨_,rfl,T4.out,X4.out⟩
end Go.Proofs.YtkddkbpoefidpaaGreatDoor
namespace Go.Proofs.YtkddkbpoefidpaaGreatDoor
open Go.RowKit
theorem levels_oneJ (f t:Int) (h:validB f t=true):levels [⟨f,t⟩] = [⟨f,t⟩]:=by
 have hv:=validB_lt h
 have hb:bnd [perT ⟨f,t⟩] = [f,t]:=by
  unfold bnd
  rw [List.flatMap_cons,List.flatMap_nil,List.append_nil,if_pos (show validT (perT ⟨f,t⟩)=true from h)]
  rfl
 have hp:pts [perT ⟨f,t⟩] = [f,t]:=by
  obtain⟨a1,a2,_⟩:=pts_law [perT ⟨f,t⟩]
  refine List.Perm.eq_of_pairwise (le:=(· < ·)) (fun x y _ _ h1 h2=>by omega) a1 (by simp;omega) ((List.perm_ext_iff_of_nodup (a1.imp fun h=>by omega) (by simp;omega)).2 fun x=>by rw [a2,hb])
 have hl:levPts [⟨f,t⟩] = [f,t]:=hp
 have hc : ∀x,cntAt [perT ⟨f,t⟩] x=if f≤x∧x<t then 1 else 0:=fun x=>by
  unfold cntAt
  rw [List.filter_cons,List.filter_nil]
  have e:holdsAt x (perT ⟨f,t⟩)=(decide (f≤x)&&decide (x<t)):=by
   unfold holdsAt
   rw [show validT (perT ⟨f,t⟩)=true from h,Bool.true_and]
   rfl
  rw [e]
  by_cases c:f≤x∧x<t
  ·rw [if_pos c,if_pos (by simp [c])];rfl
  ·rw [if_neg c,if_neg (by simpa using c)];rfl
 have f0:levF [⟨f,t⟩] 0=1:=by
  unfold levF
  rw [hl]
  show cntAt [perT ⟨f,t⟩] f=1
  rw [hc,if_pos (by omega)]
 have f1:levF [⟨f,t⟩] 1=0:=by
  unfold levF
  rw [hl]
  show cntAt [perT ⟨f,t⟩] t=0
  rw [hc,if_neg (by omega)]
 unfold levels
 rw [hl]
 show (levStep (levF [⟨f,t⟩] 1) t (levStep (levF [⟨f,t⟩] 0) f ([],[]))).2=_
 rw [f0,f1]
 rfl
theorem norm_oneJ (x:Tup) (h:validT x=true):normT [x] = [x]:=by
 have h1:rowsOf [x] = [tupRow x]:=by
  unfold rowsOf
  rw [List.filter_cons,if_pos h]
  show once [tupRow x]=_
  unfold once
  rw [if_neg (by simp)]
  rfl
 have h2:persOf (tupRow x) [x] = [⟨x.from_,x.to_⟩]:=by
  unfold persOf
  rw [List.filter_cons,if_pos h,List.filter_nil,List.filter_cons,if_pos (by simp)]
  rfl
 unfold normT normRaw
 rw [h1,List.flatMap_cons,List.flatMap_nil,List.append_nil,h2,levels_oneJ _ _ h]
 exact sortBy_short _ _ (by simp)
def awkE:List ExprI:= [⟨1,0,0,0,⟨3,1,ByteArray.empty⟩⟩]
theorem awk_tr (row:List Val):trE awkE 0 row=true:=rfl
def awkA (v:List Val):Tup:=⟨v,0,9,[1]⟩
def awkB (v:List Val):Tup:=⟨v,5,20,[2]⟩
theorem awk_pairs (v u:List Val):pairsOf [awkA v] [awkB u] = [⟨0,0,5,9⟩]:=by
 unfold pairsOf
 rw [show rawPairs [awkA v] [awkB u] = [⟨0,0,5,9⟩]from rfl]
 exact sortBy_short _ _ (by simp)
theorem awk_merge:mergeL [1] [2] = [1,2]:=by
 obtain⟨a1,a2⟩:=mergeL_law [1] [2]
 refine List.Perm.eq_of_pairwise (le:=(· < ·)) (fun x y _ _ h1 h2=>by omega) a1 (by simp) ((List.perm_ext_iff_of_nodup (a1.imp fun h=>by omega) (by simp)).2 fun x=> ?_)
 rw [a2]
 simp
theorem awk_join (v u:List Val):joinRaw (trE awkE 0) [awkA v] [awkB u] = [⟨v++u,5,9,[1,2]⟩]:=by
 unfold joinRaw
 rw [awk_pairs,List.map_cons,List.map_nil,List.filter_cons,if_pos (awk_tr _),List.filter_nil]
 unfold pairT pairRow tupOf tupRow
 show [(⟨v++u,5,9,mergeL [1] [2]⟩:Tup)]=_
 rw [awk_merge]
theorem awk_inner (v u:List Val):innerT (trE awkE 0) [awkA v] [awkB u] = [⟨v++u,5,9,[1,2]⟩]:=by
 unfold innerT
 rw [awk_join]
 exact norm_oneJ _ (show validB 5 9=true by decide)
theorem awk_pad (v u:List Val):padUpto (trE awkE 0) 2 [awkA v] [awkB u] 1 = [⟨v++List.replicate 2 nV,0,5,[1]⟩]:=by
 show []++padAt (trE awkE 0) 2 [awkA v] [awkB u] 0=_
 rw [List.nil_append]
 unfold padAt
 have hp:partners (trE awkE 0) [awkA v] [awkB u] 0 = [⟨5,9⟩]:=by
  unfold partners
  rw [awk_pairs]
  rfl
 rw [hp]
 have hs:subPs [tupPer ([awkA v].getD 0 tupD)] [⟨5,9⟩] = [⟨0,5⟩]:=by
  show subPs [⟨0,9⟩] [⟨5,9⟩]=_
  rfl
 rw [hs]
 rfl
theorem awk_left (v u:List Val):(leftT (trE awkE 0) 2 [awkA v] [awkB u]).length=2:=by
 unfold leftT leftRaw
 rw [awk_join,show [awkA v].length=1 from rfl,awk_pad]
 obtain⟨x,hx⟩ : ∃x:Tup,x=⟨v++u,5,9,[1,2]⟩:=⟨_,rfl⟩
 obtain⟨y,hy⟩ : ∃y:Tup,y=⟨v++List.replicate 2 nV,0,5,[1]⟩:=⟨_,rfl⟩
 have hvx:validT x=true:=by rw [hx];exact(show validB 5 9=true by decide)
 have hvy:validT y=true:=by rw [hy];exact(show validB 0 5=true by decide)
 have hne:tupRow x≠tupRow y:=fun e=>by
  have:=congrArg Row.lin e
  rw [hx,hy]at this
  exact absurd this (by simp [tupRow])
 rw [←hx,←hy,List.singleton_append]
 have hn:([tupRow x,tupRow y]:List Row).Nodup:=by simp [hne]
 rw [←normT_of (l:= [x,y]) hn (fun r=>by
  constructor
  ·intro h
   rcases List.mem_cons.1 h with rfl | h
   ·exact⟨x,by simp,hvx,rfl⟩
   ·rw [List.mem_singleton]at h
    subst h
    exact⟨y,by simp,hvy,rfl⟩
  ·rintro⟨t,h,_,rfl⟩
   rcases List.mem_cons.1 h with rfl | h
   ·simp
   ·rw [List.mem_singleton]at h
    subst h
    simp) (List.Perm.refl _),sortBy_length]
 have hf : [x,y].filter validT = [x,y]:=by simp [hvx,hvy]
 have p1:persOf (tupRow x) [x,y] = [tupPer x]:=by
  unfold persOf
  rw [hf,List.filter_cons,if_pos (by simp),List.filter_cons,if_neg (by simpa using fun e=>hne e.symm)]
  rfl
 have p2:persOf (tupRow y) [x,y] = [tupPer y]:=by
  unfold persOf
  rw [hf,List.filter_cons,if_neg (by simpa using hne),List.filter_cons,if_pos (by simp)]
  rfl
 unfold normRaw
 rw [List.flatMap_cons,List.flatMap_cons,List.flatMap_nil,p1,p2]
 unfold tupPer
 rw [levels_oneJ _ _ hvx,levels_oneJ _ _ hvy]
 rfl
theorem nullW_two:nullW 2=2:=by unfold nullW;omega
end Go.Proofs.YtkddkbpoefidpaaGreatDoor
