/- joined texts of a proof: AlgE, AlgF -/
import Derived.Test.YtombmdaohcjokaaGreatDoorKX12
import Derived.Test.YtombmdaohcjokaaGreatDoorKX02
namespace Go.Proofs.YtombmdaohcjokaaGreatDoor
open Go.RowKit
set_option maxRecDepth 100000 in
set_option maxHeartbeats 8000000 in
theorem cexprs_any (C:Nat) (q:QueryI) (types:List TypI) (vc:Value) (done:List (List Int)) (x:NodeI) (ve va:Value) (w:World) (hX:CkA w C q types vc done) (he:SliceOf Rep.int w.cell? ve x.exprs) (hg:SliceOf Rep.agg w.cell? va x.aggs) (hla:legN done.length x.a=true) (hlb:binK x.kind=true→legN done.length x.b=true) (hD : ∀l∈done,l.length≤1000) (hel:x.exprs.length≤1048576) :
  Calls Tryz.prog 146 #[.pointer (some ⟨C,0,none⟩),nodeV x ve va] w fun e w'=> ∃v,e = .returned (.tuple #[v,.int .i64 (exprsC q.exprs (inputC done x) x.exprs []).2])∧OwnOf Rep.int w' (fun _=>True) w.heap.size 3 v (exprsC q.exprs (inputC done x) x.exprs []).1∧Ext w w':=by
 obtain⟨i3,hi3,hz30,hz31,hz32⟩:=info_parts info_ints
 have mixed:=mixedA
 obtain⟨p1,c1,rfl,_,_,hp1⟩:=he.form
 obtain⟨p2,c2,rfl,_,_,hp2⟩:=hg.form
 have HP1:=Lib.hid hp1
 have HP2:=Lib.hid hp2
 clear hp1 hp2
 obtain⟨xk,xa,xb,xp,xt,xe,xg⟩:=x
 dsimp only at he hg hla hlb hel ⊢
 obtain⟨n1,hn1⟩ : ∃n,n=xe.length:=⟨_,rfl⟩
 obtain⟨n2,hn2⟩ : ∃n,n=xg.length:=⟨_,rfl⟩
 rw [←hn1,←hn2]
 rw [←hn1]at he
 rw [←hn2]at hg
 have HX:=Lib.hid hX
 have HE:=Lib.hid he
 have HGG:=Lib.hid hg
 have HN1:=Lib.hid hn1
 have HN2:=Lib.hid hn2
 clear he hg hn1 hn2
 have HLA:=Lib.hid hla
 have HLB:=Lib.hid hlb
 have HD:=Lib.hid hD
 obtain⟨vE,k1,sE⟩:=hX.ee
 obtain⟨pE,cE,rfl,_⟩:=sE.form
 have HSE:=Lib.hid sE
 obtain⟨nE,hnE⟩ : ∃n,n=q.exprs.length:=⟨_,rfl⟩
 rw [←hnE]at k1 HSE
 have HNE:=Lib.hid hnE
 obtain⟨cols,hcols⟩ : ∃z,z=inputC done ⟨xk,xa,xb,xp,xt,xe,xg⟩:=⟨_,rfl⟩
 have HCO:=Lib.hid hcols
 have HEO:=Lib.hid (fun x hx=>(expr_ok sE x hx).2)
 have ek:=cell_lt k1
 rw [←hcols]
 have HEL:=Lib.hid hel
 clear hX hla hlb hD sE hnE hcols hel
 go_enter Tryz.func146,Tryz.ntmps146
 go_wp2_with fail
 obtain⟨W1,hW1⟩ : ∃W1,W1=(w.alloc (.cells #[.int .i64 xk,.int .i64 xa,.int .i64 xb,.int .i64 xp,.string xt,.slice p1 n1 c1,.slice p2 n2 c2] 64)):=⟨_,rfl⟩
 obtain⟨B,hB⟩ : ∃B,B=w.heap.size:=⟨_,rfl⟩
 have hxx:Ext w W1:=by rw [hW1];exact(Ext.refl w).alloc _
 have a0:W1.cell? ⟨B,0,none⟩=some (.int .i64 xk):=by rw [hW1,hB];go_simp
 have a1:W1.cell? ⟨B,1,none⟩=some (.int .i64 xa):=by rw [hW1,hB];go_simp
 have a2:W1.cell? ⟨B,2,none⟩=some (.int .i64 xb):=by rw [hW1,hB];go_simp
 have a3:W1.cell? ⟨B,3,none⟩=some (.int .i64 xp):=by rw [hW1,hB];go_simp
 have a4:W1.cell? ⟨B,4,none⟩=some (.string xt):=by rw [hW1,hB];go_simp
 have a5:W1.cell? ⟨B,5,none⟩=some (.slice p1 n1 c1):=by rw [hW1,hB];go_simp
 have a6:W1.cell? ⟨B,6,none⟩=some (.slice p2 n2 c2):=by rw [hW1,hB];go_simp
 rw [←hB,←hW1]
 have HA:=Lib.hid (And.intro (hxx.at k1) (And.intro a0 (And.intro a1 (And.intro a2 (And.intro a3 (And.intro a4 (And.intro a5 a6)))))))
 have HB:=Lib.hid hB
 have HXX0:=Lib.hid hxx
 have HSZ:=Lib.hid (show W1.heap.size=B+1 from by rw [hW1,hB];go_simp)
 clear k1 a0 a1 a2 a3 a4 a6 hW1 hB hxx
 try go_wp2_with fail
 go_loopg [6,14] n1 (fun gj vk vi wr=> ∃(j:Nat) (u:Value) (acc:List Int),j≤n1∧gj=n1 - j∧vi = .int .i64 j∧u=vk∧Hid (OwnOf Rep.int wr (fun _=>True) (B+1) 3 u acc)∧Hid (exprsC q.exprs cols xe []=exprsC q.exprs cols (xe.drop j) acc∧acc.length=j)∧Hid (Ext W1 wr))
 case atStart=>exact⟨0,_,[],by omega,rfl,rfl,rfl,OwnOf.nil _ _ _ _ _,⟨rfl,rfl⟩,Ext.refl W1⟩
 case round =>
  clear a5
  obtain⟨j,u,acc,hj,rfl,rfl,rfl,OW,HJ,HXX⟩:=hrel
  have HWR:=Lib.hid (HXX0.out.trans HXX.out)
  by_cases hjn:j<n1
  ·have hdj:decide ((j:Int)<(n1:Int))=true:=by simp;omega
   have hjx:(j:Int)<(n1:Int):=by omega
   have hjl:j<xe.length:=by have:=HN1.out;omega
   have hjb:j<1048576:=by have:=HEL.out;omega
   obtain⟨b2,o2,rfl⟩:=HP1.out (by decide) (by omega)
   obtain⟨d0,-⟩:=int_at (by have h:=HE.out;rw [HN1.out]at h;exact h) j hjl
   replace d0:=HWR.out.at d0
   have HDROP:=Lib.hid (show xe.drop j=xe[j]::xe.drop (j+1)from List.drop_eq_getElem_cons hjl)
   generalize xe[j]=z at d0 HDROP
   have ed:=cell_lt d0
   obtain⟨K,hK⟩ : ∃y,y=(checkE q.exprs cols z).1:=⟨_,rfl⟩
   obtain⟨R,hR⟩ : ∃y,y=(checkE q.exprs cols z).2:=⟨_,rfl⟩
   have HKR:=Lib.hid (And.intro hK hR)
   have HST:=Lib.hid (show exprsC q.exprs cols xe []=if R≠0 then([],R)else exprsC q.exprs cols (xe.drop (j+1)) (acc ++ [K])from by rw [HJ.out.1,HDROP.out,hK,hR];rfl)
   have hacc:acc.length=j:=HJ.out.2
   clear hjl hK hR
   go_wp2_with fail
   have hS0:Ext w wr.drew∧wr.drew.cell? ⟨C,1,none⟩=some (.slice pE nE cE)∧wr.drew.cell? ⟨B,0,none⟩=some (.int .i64 xk)∧wr.drew.cell? ⟨B,1,none⟩=some (.int .i64 xa)∧wr.drew.cell? ⟨B,2,none⟩=some (.int .i64 xb)∧wr.drew.cell? ⟨B,3,none⟩=some (.int .i64 xp)∧wr.drew.cell? ⟨B,4,none⟩=some (.string xt)∧wr.drew.cell? ⟨B,5,none⟩=some (.slice (some ⟨b2,o2,none⟩) n1 c1)∧wr.drew.cell? ⟨B,6,none⟩=some (.slice p2 n2 c2):=⟨HWR.out.drew,HXX.out.at HA.out.1,HXX.out.at HA.out.2.1,HXX.out.at HA.out.2.2.1,HXX.out.at HA.out.2.2.2.1,HXX.out.at HA.out.2.2.2.2.1,HXX.out.at HA.out.2.2.2.2.2.1,HXX.out.at HA.out.2.2.2.2.2.2.1,HXX.out.at HA.out.2.2.2.2.2.2.2⟩
   clear d0 ed
   go_region_held3 (fun w'=>Ext w w'∧w'.cell? ⟨C,1,none⟩=some (.slice pE nE cE)∧w'.cell? ⟨B,0,none⟩=some (.int .i64 xk)∧w'.cell? ⟨B,1,none⟩=some (.int .i64 xa)∧w'.cell? ⟨B,2,none⟩=some (.int .i64 xb)∧w'.cell? ⟨B,3,none⟩=some (.int .i64 xp)∧w'.cell? ⟨B,4,none⟩=some (.string xt)∧w'.cell? ⟨B,5,none⟩=some (.slice (some ⟨b2,o2,none⟩) n1 c1)∧w'.cell? ⟨B,6,none⟩=some (.slice p2 n2 c2))
    (first |with_reducible assumption | with_reducible exact keepE8 (by assumption) x2 | with_reducible exact keepE8 (by assumption) x3)
    (first
     |(go_at_call 145;refine(input_any C q types vc done ⟨xk,xa,xb,xp,xt,xe,xg⟩ (.slice (some ⟨b2,o2,none⟩) n1 c1) (.slice p2 n2 c2) _ (HX.out.ext HWR.out.drew) (HE.out.ext HWR.out.drew.full) (HGG.out.ext HWR.out.drew.full) HLA.out HLB.out HD.out).mono ?_;rintro e w2 ⟨v2,rfl,s2,x2⟩;rw [←HCO.out]at s2;have S2:=Lib.hid s2;obtain⟨p3,q3,rfl,_⟩:=s2.form;have X2:=Lib.hid (show Ext w w2 from HWR.out.drew.trans x2);clear s2)
     |(go_at_call 201;refine(exprCheck_any _ _ q.exprs cols z _ ((HSE.out.ext (on_sub _ _)).ext X2.out.full) (S2.out.ext (on_sub _ _))).mono ?_;rintro e w3 ⟨rfl,x3⟩;have HFIT:=Lib.hid (show Ext w w3 from X2.out.trans x3);have HX23:=Lib.hid (show Ext wr w3 from (Ext.refl _).drew.trans (x2.trans x3));have HOK:=Lib.hid (checkE_ok (root:=z) (resOk HEO.out (ints_ok S2.out))))
     |fail)
   all_goals
    rw [←HKR.out.1,←HKR.out.2]
    rw [←HKR.out.1]at HOK
    clear hS0 x2 x3
    by_cases h0:R=0
    ·have b0:(R != 0)=false:=by simp [h0]
     have HS2:=Lib.hid (HST.out.trans (if_neg (fun h=>h h0)))
     have B1:acc.length+1≤maxLen:=by have:=HEL.out;have:=HN1.out;unfold maxLen;omega
     have B2:(acc.length+1)*8≤140737488355328:=by have:=HEL.out;have:=HN1.out;omega
     have XS:=Lib.hid (show B+1≤w3.heap.size from by rw [←HSZ.out];exact(HXX.out.trans HX23.out).size)
     clear h0 hacc
     go_wp2_with (at_builtin;go_loud (refine wpList_append_one Rep.int (fun _=>True) rfl _ _ 29 rfl (B+1) 3 i3 _ 8 Tryz.underlying29 hi3 hz30 hz31 hz32 rfl (by decide) u acc rfl ((OW.out.ext HX23.out).ext ((Ext.refl w3).alloc _)) ⟨w3.heap.size,0,none⟩ 1 K [.int .i64 K] rfl ⟨rfl,HOK.out⟩ (by exact cells_new w3 [.int .i64 K] _) B1 B2 (by exact Nat.le_trans XS.out ((Ext.refl w3).alloc _).size) ?_))
     intro g3 cap3 w8 own gr _
     have OW8:=Lib.hid own
     have HX8:=Lib.hid (show Ext W1 w8 from ext_grown ((HXX.out.trans HX23.out).alloc (.cells #[.int .i64 K] 3)) gr (fun k hk=>by rw [HSZ.out];exact(OW.out.lt k hk).1))
     clear own gr
     go_wp2_with fail
     go_roundg (n1 - (j+1))
     case measure=>omega
     case rel=>exact⟨j+1,_,acc ++ [K],by omega,rfl,by go_num,rfl,OW8.out,⟨HS2.out,by rw [List.length_append,HJ.out.2];rfl⟩,HX8.out⟩
    ·have b0:(R != 0)=true:=by simp [h0]
     have HS2:=Lib.hid (HST.out.trans (if_pos h0))
     clear h0
     go_wp2_with fail
     exact bodyPost_ret (v:= .tuple #[.slice none 0 0,.int .i64 R]) (by simp [results,Tryz.results146,go_sem]) rfl ⟨_,by rw [HS2.out],by rw [HS2.out];exact OwnOf.nil _ _ _ _ _,HFIT.out⟩
  ·have hjn2:j=n1:=by omega
   have hdj:decide ((j:Int)<(n1:Int))=false:=by simp;omega
   have HS2:=Lib.hid (show exprsC q.exprs cols xe []=(acc,0)from by rw [HJ.out.1,List.drop_of_length_le (by have:=HN1.out;omega)];rfl)
   clear hjn2
   go_wp2_with fail
   exact bodyPost_ret (v:= .tuple #[u,.int .i64 0]) (by simp [results,Tryz.results146,go_sem]) rfl ⟨_,by rw [HS2.out],by rw [HS2.out,←HB.out];exact OW.out.weak (fun _ _ h=>h) (Nat.le_succ _),HWR.out⟩
theorem exprsC_len (es:List ExprI) (cols:List Int) (xs:List Int) : ∀acc,(exprsC es cols xs acc).1.length≤acc.length+xs.length:=by
 induction xs with
 |nil=>intro acc;simp [exprsC]
 |cons x xs ih =>
  intro acc
  unfold exprsC
  split
  ·simp
  ·have:=ih (acc ++ [(checkE es cols x).1])
   simp only [List.length_append,List.length_cons,List.length_nil]at this ⊢
   omega
set_option maxRecDepth 100000 in
set_option maxHeartbeats 16000000 in
theorem cgroup_any (C:Nat) (q:QueryI) (types:List TypI) (vc:Value) (done:List (List Int)) (x:NodeI) (ve va:Value) (w:World) (hX:CkA w C q types vc done) (he:SliceOf Rep.int w.cell? ve x.exprs) (hg:SliceOf Rep.agg w.cell? va x.aggs) (hla:legN done.length x.a=true) (hlb:binK x.kind=true→legN done.length x.b=true) (hD : ∀l∈done,l.length≤1000) (hel:x.exprs.length≤1048576) (hgl:x.aggs.length≤1048576) :
  Calls Tryz.prog 148 #[.pointer (some ⟨C,0,none⟩),nodeV x ve va] w fun e w'=> ∃v,e = .returned (.tuple #[v,.int .i64 (groupC q.exprs (inputC done x) x).2])∧OwnOf Rep.int w' (fun _=>True) w.heap.size 3 v (groupC q.exprs (inputC done x) x).1∧Ext w w':=by
 obtain⟨i3,hi3,hz30,hz31,hz32⟩:=info_parts info_ints
 have mixed:=mixedA
 obtain⟨p1,c1,rfl,_,_,hp1⟩:=he.form
 obtain⟨p2,c2,rfl,_,_,hp2⟩:=hg.form
 have HP1:=Lib.hid hp1
 have HP2:=Lib.hid hp2
 clear hp1 hp2
 obtain⟨xk,xa,xb,xp,xt,xe,xg⟩:=x
 dsimp only at he hg hla hlb hel hgl ⊢
 obtain⟨n1,hn1⟩ : ∃n,n=xe.length:=⟨_,rfl⟩
 obtain⟨n2,hn2⟩ : ∃n,n=xg.length:=⟨_,rfl⟩
 rw [←hn1,←hn2]
 rw [←hn1]at he
 rw [←hn2]at hg
 have HX:=Lib.hid hX
 have HE:=Lib.hid he
 have HGG:=Lib.hid hg
 have HN1:=Lib.hid hn1
 have HN2:=Lib.hid hn2
 clear he hg hn1 hn2
 have HLA:=Lib.hid hla
 have HLB:=Lib.hid hlb
 have HD:=Lib.hid hD
 obtain⟨vE,k1,sE⟩:=hX.ee
 obtain⟨pE,cE,rfl,_⟩:=sE.form
 have HSE:=Lib.hid sE
 obtain⟨nE,hnE⟩ : ∃n,n=q.exprs.length:=⟨_,rfl⟩
 rw [←hnE]at k1 HSE
 have HNE:=Lib.hid hnE
 obtain⟨cols,hcols⟩ : ∃z,z=inputC done ⟨xk,xa,xb,xp,xt,xe,xg⟩:=⟨_,rfl⟩
 have HCO:=Lib.hid hcols
 have HEO:=Lib.hid (fun x hx=>(expr_ok sE x hx).2)
 have ek:=cell_lt k1
 rw [←hcols]
 have HEL:=Lib.hid hel
 have HGL:=Lib.hid hgl
 clear hX hla hlb hD sE hnE hcols hel hgl
 go_enter Tryz.func148,Tryz.ntmps148
 go_wp2_with fail
 obtain⟨W1,hW1⟩ : ∃W1,W1=(w.alloc (.cells #[.int .i64 xk,.int .i64 xa,.int .i64 xb,.int .i64 xp,.string xt,.slice p1 n1 c1,.slice p2 n2 c2] 64)):=⟨_,rfl⟩
 obtain⟨B,hB⟩ : ∃B,B=w.heap.size:=⟨_,rfl⟩
 have hxx:Ext w W1:=by rw [hW1];exact(Ext.refl w).alloc _
 have a0:W1.cell? ⟨B,0,none⟩=some (.int .i64 xk):=by rw [hW1,hB];go_simp
 have a1:W1.cell? ⟨B,1,none⟩=some (.int .i64 xa):=by rw [hW1,hB];go_simp
 have a2:W1.cell? ⟨B,2,none⟩=some (.int .i64 xb):=by rw [hW1,hB];go_simp
 have a3:W1.cell? ⟨B,3,none⟩=some (.int .i64 xp):=by rw [hW1,hB];go_simp
 have a4:W1.cell? ⟨B,4,none⟩=some (.string xt):=by rw [hW1,hB];go_simp
 have a5:W1.cell? ⟨B,5,none⟩=some (.slice p1 n1 c1):=by rw [hW1,hB];go_simp
 have a6:W1.cell? ⟨B,6,none⟩=some (.slice p2 n2 c2):=by rw [hW1,hB];go_simp
 rw [←hB,←hW1]
 have HA:=Lib.hid (And.intro (hxx.at k1) (And.intro a0 (And.intro a1 (And.intro a2 (And.intro a3 (And.intro a4 (And.intro a5 a6)))))))
 have HB:=Lib.hid hB
 have HXX0:=Lib.hid hxx
 have HSZ:=Lib.hid (show W1.heap.size=B+1 from by rw [hW1,hB];go_simp)
 clear k1 hW1 hB hxx
 refine(cexprs_any C q types vc done ⟨xk,xa,xb,xp,xt,xe,xg⟩ (.slice p1 n1 c1) (.slice p2 n2 c2) _ (HX.out.ext HXX0.out) (HE.out.ext HXX0.out.full) (HGG.out.ext HXX0.out.full) HLA.out HLB.out HD.out HEL.out).mono ?_
 rintro e w2 ⟨u0,rfl,o2,x2⟩
 rw [←HCO.out]at o2 ⊢
 have HU:=Lib.hid (o2.weak (T:=fun _=>True) (fun _ _ h=>h) (Nat.le_of_eq HSZ.out.symm))
 have HX2:=Lib.hid x2
 have hgc:groupC q.exprs cols ⟨xk,xa,xb,xp,xt,xe,xg⟩=if (exprsC q.exprs cols xe []).2≠0 then([],(exprsC q.exprs cols xe []).2)else aggsC q.exprs cols xg (exprsC q.exprs cols xe []).1 false:=rfl
 have hl0:(exprsC q.exprs cols xe []).1.length≤1048576:=by have h1:=exprsC_len q.exprs cols xe [];have h2:=HEL.out;simp only [List.length_nil]at h1;omega
 obtain⟨R0,hR0⟩ : ∃y,y=(exprsC q.exprs cols xe []).2:=⟨_,rfl⟩
 obtain⟨acc0,ha0⟩ : ∃y,y=(exprsC q.exprs cols xe []).1:=⟨_,rfl⟩
 rw [←ha0]at HU
 rw [←hR0,←ha0]at hgc
 rw [←ha0]at hl0
 rw [←hR0]
 have HGC:=Lib.hid hgc
 obtain⟨L0,hL0⟩ : ∃y,y=acc0.length:=⟨_,rfl⟩
 rw [←hL0]at hl0
 have HL0:=Lib.hid hl0
 have HL0E:=Lib.hid hL0
 replace a6:=x2.at a6
 have e6:=cell_lt a6
 clear o2 hgc hl0 hR0 ha0 x2 hL0 a0 a1 a2 a3 a4 a5
 by_cases h0 : ¬R0=0
 ·have b0:(R0 != 0)=true:=by simp [h0]
  have HS2:=Lib.hid (HGC.out.trans (if_pos h0))
  clear h0
  go_wp2_with fail
  exact bodyPost_ret (v:= .tuple #[.slice none 0 0,.int .i64 R0]) (by simp [results,Tryz.results148,go_sem]) rfl ⟨_,by rw [HS2.out],by rw [HS2.out];exact OwnOf.nil _ _ _ _ _,HXX0.out.trans HX2.out⟩
 ·replace h0:=Decidable.not_not.1 h0
  have b0:(R0 != 0)=false:=by simp [h0]
  have HS1:=Lib.hid (HGC.out.trans (if_neg (fun h=>h h0)))
  clear h0
  go_wp2_with fail
  go_loopg [6,8,26] n2 (fun gj vk vm vi wr=> ∃(j:Nat) (u:Value) (acc:List Int) (mis:Bool),j≤n2∧gj=n2 - j∧vi = .int .i64 j∧vm = .bool mis∧u=vk∧Hid (OwnOf Rep.int wr (fun _=>True) (B+1) 3 u acc)∧Hid (groupC q.exprs cols ⟨xk,xa,xb,xp,xt,xe,xg⟩=aggsC q.exprs cols (xg.drop j) acc mis∧acc.length=L0+j)∧Hid (Ext W1 wr))
  case atStart=>exact⟨0,_,acc0,false,by omega,rfl,rfl,rfl,rfl,HU.out,⟨HS1.out,by rw [HL0E.out];rfl⟩,HX2.out⟩
  case round =>
   clear a6 e6 HU
   obtain⟨j,u,acc,mis,hj,rfl,rfl,rfl,rfl,OW,HJ,HXX⟩:=hrel
   have HWR:=Lib.hid (HXX0.out.trans HXX.out)
   by_cases hjn:j<n2
   ·have hdj:decide ((j:Int)<(n2:Int))=true:=by simp;omega
    have hjx:(j:Int)<(n2:Int):=by omega
    have hjl:j<xg.length:=by have:=HN2.out;omega
    have hjb:j<1048576:=by have:=HGL.out;omega
    obtain⟨b2,o2,rfl⟩:=HP2.out (by decide) (by omega)
    obtain⟨d0,d1⟩:=agg_at (by have h:=HGG.out;rw [HN2.out]at h;exact h) j hjl
    replace d0:=HWR.out.at d0
    replace d1:=HWR.out.at d1
    have HDROP:=Lib.hid (show xg.drop j=xg[j]::xg.drop (j+1)from List.drop_eq_getElem_cons hjl)
    generalize xg[j]=g at d0 d1 HDROP
    obtain⟨gk,ga⟩:=g
    dsimp only at d0 d1
    have ed:=cell_lt d0
    obtain⟨K,hK⟩ : ∃y,y=(checkE q.exprs cols ga).1:=⟨_,rfl⟩
    obtain⟨R,hR⟩ : ∃y,y=(checkE q.exprs cols ga).2:=⟨_,rfl⟩
    have HKR:=Lib.hid (And.intro hK hR)
    have HST:=Lib.hid (show groupC q.exprs cols ⟨xk,xa,xb,xp,xt,xe,xg⟩=if gk=1 then aggsC q.exprs cols (xg.drop (j+1)) (acc ++ [1]) mis else if gk<1∨4<gk then([],5)else if R≠0 then([],R)else if gk=2 then aggsC q.exprs cols (xg.drop (j+1)) (acc ++ [1]) (mis||(decide (K≠1)&&decide (K≠0)))else aggsC q.exprs cols (xg.drop (j+1)) (acc ++ [K]) mis from by rw [HJ.out.1,HDROP.out,hK,hR];rfl)
    clear hjl hK hR
    have hcase:gk=1∨(gk≠1∧(gk<1∨4<gk))∨gk=2∨gk=3∨gk=4:=by omega
    rcases hcase with hc | hc | hc
    ·have HS2:=Lib.hid (HST.out.trans (if_pos hc))
     have g1:(gk==1)=true:=by simp [hc]
     have HXL:=Lib.hid (show Ext wr (wr.alloc (.cells #[.int .i64 gk,.int .i64 ga] 74))from (Ext.refl wr).alloc _)
     have B1:acc.length+1≤maxLen:=by rw [HJ.out.2];have:=HL0.out;unfold maxLen;omega
     have B2:(acc.length+1)*8≤140737488355328:=by rw [HJ.out.2];have:=HL0.out;omega
     have XS:=Lib.hid (show B+1≤(wr.alloc (.cells #[.int .i64 gk,.int .i64 ga] 74)).heap.size from by rw [←HSZ.out];exact(HXX.out.trans HXL.out).size)
     clear hc
     go_wp2_with (at_builtin;go_loud (refine wpList_append_one Rep.int (fun _=>True) rfl _ _ 29 rfl (B+1) 3 i3 _ 8 Tryz.underlying29 hi3 hz30 hz31 hz32 rfl (by decide) u acc rfl ((OW.out.ext HXL.out).ext ((Ext.refl (wr.alloc (.cells #[.int .i64 gk,.int .i64 ga] 74))).alloc _)) ⟨wr.heap.size+1,0,none⟩ 1 1 [.int .i64 1] rfl ⟨rfl,okI_sml (by decide) (by decide)⟩ (by have h:=cells_new (wr.alloc (.cells #[.int .i64 gk,.int .i64 ga] 74)) [.int .i64 1] 3;rw [show (wr.alloc (.cells #[.int .i64 gk,.int .i64 ga] 74)).heap.size=wr.heap.size+1 from by go_simp]at h;exact h) B1 B2 (by exact Nat.le_trans XS.out ((Ext.refl (wr.alloc (.cells #[.int .i64 gk,.int .i64 ga] 74))).alloc _).size) ?_))
     intro g3 cap3 w8 own gr _
     have OW8:=Lib.hid own
     have HX8:=Lib.hid (show Ext W1 w8 from ext_grown ((HXX.out.trans HXL.out).alloc (.cells #[.int .i64 1] 3)) gr (fun k hk=>by rw [HSZ.out];exact(OW.out.lt k hk).1))
     clear own gr
     go_wp2_with fail
     go_roundg (n2 - (j+1))
     case measure=>omega
     case rel=>exact⟨j+1,_,acc ++ [1],mis,by omega,rfl,by go_num,rfl,rfl,OW8.out,⟨HS2.out,by rw [List.length_append,HJ.out.2];show L0+j+1=L0+(j+1);omega⟩,HX8.out⟩
    ·have HS2:=Lib.hid (HST.out.trans ((if_neg hc.1).trans (if_pos hc.2)))
     have g1:(gk==1)=false:=by simp;omega
     have g2:(gk==2)=false:=by simp;omega
     have g3:(gk==3)=false:=by simp;omega
     have g4:(gk==4)=false:=by simp;omega
     clear hc
     go_wp2_with fail
     exact bodyPost_ret (v:= .tuple #[.slice none 0 0,.int .i64 5]) (by simp [results,Tryz.results148,go_sem]) rfl ⟨_,by rw [HS2.out],by rw [HS2.out];exact OwnOf.nil _ _ _ _ _,HWR.out.trans ((Ext.refl wr).alloc _)⟩
    ·have HC:=Lib.hid hc
     have g1:(gk==1)=false:=by simp;omega
     have HST2:=Lib.hid (HST.out.trans ((if_neg (by omega)).trans (if_neg (by omega))))
     rcases hc with hc | hc
     ·have g2:(gk==2)=true:=by simp [hc]
      clear hc
      have HGK:=Lib.hid (show gk=2 from by have h:=g2;simp at h;exact h)
      go_wp2_with fail
      obtain⟨W2,hW2⟩ : ∃z,z=wr.alloc (.cells #[.int .i64 gk,.int .i64 ga] 74):=⟨_,rfl⟩
      obtain⟨A,hA⟩ : ∃z,z=wr.heap.size:=⟨_,rfl⟩
      have HX2':=Lib.hid (show Ext wr W2 from by rw [hW2];exact(Ext.refl wr).alloc _)
      have HY2:=Lib.hid (HXX.out.trans HX2'.out)
      have HW2:=Lib.hid (HWR.out.trans HX2'.out)
      have A0:W2.cell? ⟨A,0,none⟩=some (.int .i64 gk):=by rw [hW2,hA];go_simp
      have A1:W2.cell? ⟨A,1,none⟩=some (.int .i64 ga):=by rw [hW2,hA];go_simp
      rw [←hA,←hW2]
      have hS0:Ext w W2.drew∧W2.drew.cell? ⟨C,1,none⟩=some (.slice pE nE cE)∧W2.drew.cell? ⟨B,0,none⟩=some (.int .i64 xk)∧W2.drew.cell? ⟨B,1,none⟩=some (.int .i64 xa)∧W2.drew.cell? ⟨B,2,none⟩=some (.int .i64 xb)∧W2.drew.cell? ⟨B,3,none⟩=some (.int .i64 xp)∧W2.drew.cell? ⟨B,4,none⟩=some (.string xt)∧W2.drew.cell? ⟨B,5,none⟩=some (.slice p1 n1 c1)∧W2.drew.cell? ⟨B,6,none⟩=some (.slice (some ⟨b2,o2,none⟩) n2 c2)∧W2.drew.cell? ⟨A,0,none⟩=some (.int .i64 gk)∧W2.drew.cell? ⟨A,1,none⟩=some (.int .i64 ga):=⟨HW2.out.drew,HY2.out.at HA.out.1,HY2.out.at HA.out.2.1,HY2.out.at HA.out.2.2.1,HY2.out.at HA.out.2.2.2.1,HY2.out.at HA.out.2.2.2.2.1,HY2.out.at HA.out.2.2.2.2.2.1,HY2.out.at HA.out.2.2.2.2.2.2.1,HY2.out.at HA.out.2.2.2.2.2.2.2,A0,A1⟩
      clear d0 d1 ed A0 A1 hW2 hA
      go_region_held3 (fun w'=>Ext w w'∧w'.cell? ⟨C,1,none⟩=some (.slice pE nE cE)∧w'.cell? ⟨B,0,none⟩=some (.int .i64 xk)∧w'.cell? ⟨B,1,none⟩=some (.int .i64 xa)∧w'.cell? ⟨B,2,none⟩=some (.int .i64 xb)∧w'.cell? ⟨B,3,none⟩=some (.int .i64 xp)∧w'.cell? ⟨B,4,none⟩=some (.string xt)∧w'.cell? ⟨B,5,none⟩=some (.slice p1 n1 c1)∧w'.cell? ⟨B,6,none⟩=some (.slice (some ⟨b2,o2,none⟩) n2 c2)∧w'.cell? ⟨A,0,none⟩=some (.int .i64 gk)∧w'.cell? ⟨A,1,none⟩=some (.int .i64 ga))
       (first |with_reducible assumption | with_reducible exact keepE10 (by assumption) x2 | with_reducible exact keepE10 (by assumption) x3)
       (first
        |(go_at_call 145;refine(input_any C q types vc done ⟨xk,xa,xb,xp,xt,xe,xg⟩ (.slice p1 n1 c1) (.slice (some ⟨b2,o2,none⟩) n2 c2) _ (HX.out.ext HW2.out.drew) (HE.out.ext HW2.out.drew.full) (HGG.out.ext HW2.out.drew.full) HLA.out HLB.out HD.out).mono ?_;rintro e w2 ⟨v2,rfl,s2,x2⟩;rw [←HCO.out]at s2;have S2:=Lib.hid s2;obtain⟨p3,q3,rfl,_⟩:=s2.form;have X2:=Lib.hid (show Ext w w2 from HW2.out.drew.trans x2);clear s2)
        |(go_at_call 201;refine(exprCheck_any _ _ q.exprs cols ga _ ((HSE.out.ext (on_sub _ _)).ext X2.out.full) (S2.out.ext (on_sub _ _))).mono ?_;rintro e w3 ⟨rfl,x3⟩;have HFIT:=Lib.hid (show Ext w w3 from X2.out.trans x3);have HX23:=Lib.hid (show Ext W2 w3 from (Ext.refl _).drew.trans (x2.trans x3));have HOK:=Lib.hid (checkE_ok (root:=ga) (resOk HEO.out (ints_ok S2.out))))
        |fail)
      all_goals
       have HXL:=Lib.hid (HX2'.out.trans HX23.out)
      all_goals
       rw [←HKR.out.1,←HKR.out.2]
       rw [←HKR.out.1]at HOK
       clear hS0 x2 x3
       by_cases h0:R=0
       ·have b0:(R != 0)=false:=by simp [h0]
        have bk2:(gk != 2)=false:=by rw [HGK.out];rfl
        have HS3:=Lib.hid (HST2.out.trans ((if_neg (fun h=>h h0)).trans (if_pos HGK.out)))
        have XS:=Lib.hid (show B+1≤w3.heap.size from by rw [←HSZ.out];exact(HXX.out.trans HXL.out).size)
        have B1:acc.length+1≤maxLen:=by rw [HJ.out.2];have:=HL0.out;unfold maxLen;omega
        have B2:(acc.length+1)*8≤140737488355328:=by rw [HJ.out.2];have:=HL0.out;omega
        clear h0
        by_cases k1:K=1
        ·have q1:(K != 1)=false:=by simp [k1]
         have HS2:=Lib.hid (show groupC q.exprs cols ⟨xk,xa,xb,xp,xt,xe,xg⟩=aggsC q.exprs cols (xg.drop (j+1)) (acc ++ [1]) mis from by rw [HS3.out];simp [k1])
         clear k1
         go_wp2_with (at_builtin;go_loud (refine wpList_append_one Rep.int (fun _=>True) rfl _ _ 29 rfl (B+1) 3 i3 _ 8 Tryz.underlying29 hi3 hz30 hz31 hz32 rfl (by decide) u acc rfl ((OW.out.ext HXL.out).ext ((Ext.refl (w3)).alloc _)) ⟨(w3).heap.size,0,none⟩ 1 1 [.int .i64 1] rfl ⟨rfl,okI_sml (by decide) (by decide)⟩ (by have h:=cells_new (w3) [.int .i64 1] 3;exact h) B1 B2 (by exact Nat.le_trans XS.out ((Ext.refl (w3)).alloc _).size) ?_))
         intro g3 cap3 w8 own gr _
         have OW8:=Lib.hid own
         have HX8:=Lib.hid (show Ext W1 w8 from ext_grown ((HXX.out.trans HXL.out).alloc (.cells #[.int .i64 1] 3)) gr (fun k hk=>by rw [HSZ.out];exact(OW.out.lt k hk).1))
         clear own gr
         go_wp2_with fail
         go_roundg (n2 - (j+1))
         case measure=>omega
         case rel=>exact⟨j+1,_,acc ++ [1],mis,by omega,rfl,by go_num,rfl,rfl,OW8.out,⟨HS2.out,by rw [List.length_append,HJ.out.2];show L0+j+1=L0+(j+1);omega⟩,HX8.out⟩
        ·have q1:(K != 1)=true:=by simp [k1]
         by_cases k0:K=0
         ·have q0:(K != 0)=false:=by simp [k0]
          have HS2:=Lib.hid (show groupC q.exprs cols ⟨xk,xa,xb,xp,xt,xe,xg⟩=aggsC q.exprs cols (xg.drop (j+1)) (acc ++ [1]) mis from by rw [HS3.out];simp [k0])
          clear k0 k1
          go_wp2_with (at_builtin;go_loud (refine wpList_append_one Rep.int (fun _=>True) rfl _ _ 29 rfl (B+1) 3 i3 _ 8 Tryz.underlying29 hi3 hz30 hz31 hz32 rfl (by decide) u acc rfl ((OW.out.ext HXL.out).ext ((Ext.refl (w3)).alloc _)) ⟨(w3).heap.size,0,none⟩ 1 1 [.int .i64 1] rfl ⟨rfl,okI_sml (by decide) (by decide)⟩ (by have h:=cells_new (w3) [.int .i64 1] 3;exact h) B1 B2 (by exact Nat.le_trans XS.out ((Ext.refl (w3)).alloc _).size) ?_))
          intro g3 cap3 w8 own gr _
          have OW8:=Lib.hid own
          have HX8:=Lib.hid (show Ext W1 w8 from ext_grown ((HXX.out.trans HXL.out).alloc (.cells #[.int .i64 1] 3)) gr (fun k hk=>by rw [HSZ.out];exact(OW.out.lt k hk).1))
          clear own gr
          go_wp2_with fail
          go_roundg (n2 - (j+1))
          case measure=>omega
          case rel=>exact⟨j+1,_,acc ++ [1],mis,by omega,rfl,by go_num,rfl,rfl,OW8.out,⟨HS2.out,by rw [List.length_append,HJ.out.2];show L0+j+1=L0+(j+1);omega⟩,HX8.out⟩
         ·have q0:(K != 0)=true:=by simp [k0]
          have HS2:=Lib.hid (show groupC q.exprs cols ⟨xk,xa,xb,xp,xt,xe,xg⟩=aggsC q.exprs cols (xg.drop (j+1)) (acc ++ [1]) true from by rw [HS3.out];simp [k0,k1])
          clear k0 k1
          go_wp2_with (at_builtin;go_loud (refine wpList_append_one Rep.int (fun _=>True) rfl _ _ 29 rfl (B+1) 3 i3 _ 8 Tryz.underlying29 hi3 hz30 hz31 hz32 rfl (by decide) u acc rfl ((OW.out.ext HXL.out).ext ((Ext.refl (w3)).alloc _)) ⟨(w3).heap.size,0,none⟩ 1 1 [.int .i64 1] rfl ⟨rfl,okI_sml (by decide) (by decide)⟩ (by have h:=cells_new (w3) [.int .i64 1] 3;exact h) B1 B2 (by exact Nat.le_trans XS.out ((Ext.refl (w3)).alloc _).size) ?_))
          intro g3 cap3 w8 own gr _
          have OW8:=Lib.hid own
          have HX8:=Lib.hid (show Ext W1 w8 from ext_grown ((HXX.out.trans HXL.out).alloc (.cells #[.int .i64 1] 3)) gr (fun k hk=>by rw [HSZ.out];exact(OW.out.lt k hk).1))
          clear own gr
          go_wp2_with fail
          go_roundg (n2 - (j+1))
          case measure=>omega
          case rel=>exact⟨j+1,_,acc ++ [1],true,by omega,rfl,by go_num,rfl,rfl,OW8.out,⟨HS2.out,by rw [List.length_append,HJ.out.2];show L0+j+1=L0+(j+1);omega⟩,HX8.out⟩
       ·have b0:(R != 0)=true:=by simp [h0]
        have HS2:=Lib.hid (HST2.out.trans (if_pos h0))
        clear h0
        go_wp2_with fail
        exact bodyPost_ret (v:= .tuple #[.slice none 0 0,.int .i64 R]) (by simp [results,Tryz.results148,go_sem]) rfl ⟨_,by rw [HS2.out],by rw [HS2.out];exact OwnOf.nil _ _ _ _ _,HFIT.out⟩
     ·have g2:(gk==2)=false:=by simp;omega
      have bk2:(gk != 2)=true:=by simp;omega
      have HGK:=Lib.hid (show gk≠2 from by omega)
      have g34:((gk==3)=true)∨((gk==3)=false∧(gk==4)=true):=by rcases hc with h | h <;> simp [h]
      clear hc
      rcases g34 with g3 | ⟨g3,g4⟩
      all_goals
       go_wp2_with fail
       obtain⟨W2,hW2⟩ : ∃z,z=wr.alloc (.cells #[.int .i64 gk,.int .i64 ga] 74):=⟨_,rfl⟩
       obtain⟨A,hA⟩ : ∃z,z=wr.heap.size:=⟨_,rfl⟩
       have HX2':=Lib.hid (show Ext wr W2 from by rw [hW2];exact(Ext.refl wr).alloc _)
       have HY2:=Lib.hid (HXX.out.trans HX2'.out)
       have HW2:=Lib.hid (HWR.out.trans HX2'.out)
       have A0:W2.cell? ⟨A,0,none⟩=some (.int .i64 gk):=by rw [hW2,hA];go_simp
       have A1:W2.cell? ⟨A,1,none⟩=some (.int .i64 ga):=by rw [hW2,hA];go_simp
       rw [←hA,←hW2]
       have hS0:Ext w W2.drew∧W2.drew.cell? ⟨C,1,none⟩=some (.slice pE nE cE)∧W2.drew.cell? ⟨B,0,none⟩=some (.int .i64 xk)∧W2.drew.cell? ⟨B,1,none⟩=some (.int .i64 xa)∧W2.drew.cell? ⟨B,2,none⟩=some (.int .i64 xb)∧W2.drew.cell? ⟨B,3,none⟩=some (.int .i64 xp)∧W2.drew.cell? ⟨B,4,none⟩=some (.string xt)∧W2.drew.cell? ⟨B,5,none⟩=some (.slice p1 n1 c1)∧W2.drew.cell? ⟨B,6,none⟩=some (.slice (some ⟨b2,o2,none⟩) n2 c2)∧W2.drew.cell? ⟨A,0,none⟩=some (.int .i64 gk)∧W2.drew.cell? ⟨A,1,none⟩=some (.int .i64 ga):=⟨HW2.out.drew,HY2.out.at HA.out.1,HY2.out.at HA.out.2.1,HY2.out.at HA.out.2.2.1,HY2.out.at HA.out.2.2.2.1,HY2.out.at HA.out.2.2.2.2.1,HY2.out.at HA.out.2.2.2.2.2.1,HY2.out.at HA.out.2.2.2.2.2.2.1,HY2.out.at HA.out.2.2.2.2.2.2.2,A0,A1⟩
       clear d0 d1 ed A0 A1 hW2 hA
       go_region_held3 (fun w'=>Ext w w'∧w'.cell? ⟨C,1,none⟩=some (.slice pE nE cE)∧w'.cell? ⟨B,0,none⟩=some (.int .i64 xk)∧w'.cell? ⟨B,1,none⟩=some (.int .i64 xa)∧w'.cell? ⟨B,2,none⟩=some (.int .i64 xb)∧w'.cell? ⟨B,3,none⟩=some (.int .i64 xp)∧w'.cell? ⟨B,4,none⟩=some (.string xt)∧w'.cell? ⟨B,5,none⟩=some (.slice p1 n1 c1)∧w'.cell? ⟨B,6,none⟩=some (.slice (some ⟨b2,o2,none⟩) n2 c2)∧w'.cell? ⟨A,0,none⟩=some (.int .i64 gk)∧w'.cell? ⟨A,1,none⟩=some (.int .i64 ga))
        (first |with_reducible assumption | with_reducible exact keepE10 (by assumption) x2 | with_reducible exact keepE10 (by assumption) x3)
        (first
         |(go_at_call 145;refine(input_any C q types vc done ⟨xk,xa,xb,xp,xt,xe,xg⟩ (.slice p1 n1 c1) (.slice (some ⟨b2,o2,none⟩) n2 c2) _ (HX.out.ext HW2.out.drew) (HE.out.ext HW2.out.drew.full) (HGG.out.ext HW2.out.drew.full) HLA.out HLB.out HD.out).mono ?_;rintro e w2 ⟨v2,rfl,s2,x2⟩;rw [←HCO.out]at s2;have S2:=Lib.hid s2;obtain⟨p3,q3,rfl,_⟩:=s2.form;have X2:=Lib.hid (show Ext w w2 from HW2.out.drew.trans x2);clear s2)
         |(go_at_call 201;refine(exprCheck_any _ _ q.exprs cols ga _ ((HSE.out.ext (on_sub _ _)).ext X2.out.full) (S2.out.ext (on_sub _ _))).mono ?_;rintro e w3 ⟨rfl,x3⟩;have HFIT:=Lib.hid (show Ext w w3 from X2.out.trans x3);have HX23:=Lib.hid (show Ext W2 w3 from (Ext.refl _).drew.trans (x2.trans x3));have HOK:=Lib.hid (checkE_ok (root:=ga) (resOk HEO.out (ints_ok S2.out))))
         |fail)
       all_goals
        have HXL:=Lib.hid (HX2'.out.trans HX23.out)
      all_goals
       rw [←HKR.out.1,←HKR.out.2]
       rw [←HKR.out.1]at HOK
       clear hS0 x2 x3
       by_cases h0:R=0
       ·have b0:(R != 0)=false:=by simp [h0]
        have HS2:=Lib.hid (HST2.out.trans ((if_neg (fun h=>h h0)).trans (if_neg HGK.out)))
        have XS:=Lib.hid (show B+1≤w3.heap.size from by rw [←HSZ.out];exact(HXX.out.trans HXL.out).size)
        have B1:acc.length+1≤maxLen:=by rw [HJ.out.2];have:=HL0.out;unfold maxLen;omega
        have B2:(acc.length+1)*8≤140737488355328:=by rw [HJ.out.2];have:=HL0.out;omega
        clear h0
        go_wp2_with (at_builtin;go_loud (refine wpList_append_one Rep.int (fun _=>True) rfl _ _ 29 rfl (B+1) 3 i3 _ 8 Tryz.underlying29 hi3 hz30 hz31 hz32 rfl (by decide) u acc rfl ((OW.out.ext HXL.out).ext ((Ext.refl (w3)).alloc _)) ⟨(w3).heap.size,0,none⟩ 1 K [.int .i64 K] rfl ⟨rfl,HOK.out⟩ (by have h:=cells_new (w3) [.int .i64 K] 3;exact h) B1 B2 (by exact Nat.le_trans XS.out ((Ext.refl (w3)).alloc _).size) ?_))
        intro g3 cap3 w8 own gr _
        have OW8:=Lib.hid own
        have HX8:=Lib.hid (show Ext W1 w8 from ext_grown ((HXX.out.trans HXL.out).alloc (.cells #[.int .i64 K] 3)) gr (fun k hk=>by rw [HSZ.out];exact(OW.out.lt k hk).1))
        clear own gr
        go_wp2_with fail
        go_roundg (n2 - (j+1))
        case measure=>omega
        case rel=>exact⟨j+1,_,acc ++ [K],mis,by omega,rfl,by go_num,rfl,rfl,OW8.out,⟨HS2.out,by rw [List.length_append,HJ.out.2];show L0+j+1=L0+(j+1);omega⟩,HX8.out⟩
       ·have b0:(R != 0)=true:=by simp [h0]
        have HS2:=Lib.hid (HST2.out.trans (if_pos h0))
        clear h0
        go_wp2_with fail
        exact bodyPost_ret (v:= .tuple #[.slice none 0 0,.int .i64 R]) (by simp [results,Tryz.results148,go_sem]) rfl ⟨_,by rw [HS2.out],by rw [HS2.out];exact OwnOf.nil _ _ _ _ _,HFIT.out⟩
   ·have hjn2:j=n2:=by omega
    have hdj:decide ((j:Int)<(n2:Int))=false:=by simp;omega
    have HS3:=Lib.hid (show groupC q.exprs cols ⟨xk,xa,xb,xp,xt,xe,xg⟩=if mis=true then([],7)else(acc,0)from by rw [HJ.out.1,List.drop_of_length_le (by have:=HN2.out;omega)];rfl)
    clear hjn2
    cases mis
    ·have HS2:=Lib.hid (HS3.out.trans (if_neg (by decide)))
     go_wp2_with fail
     exact bodyPost_ret (v:= .tuple #[u,.int .i64 0]) (by simp [results,Tryz.results148,go_sem]) rfl ⟨_,by rw [HS2.out],by rw [HS2.out];exact(HB.out▸OW.out.weak (fun _ _ h=>h) (Nat.le_succ _)),HWR.out⟩
    ·have HS2:=Lib.hid (HS3.out.trans (if_pos rfl))
     go_wp2_with fail
     exact bodyPost_ret (v:= .tuple #[.slice none 0 0,.int .i64 7]) (by simp [results,Tryz.results148,go_sem]) rfl ⟨_,by rw [HS2.out],by rw [HS2.out];exact OwnOf.nil _ _ _ _ _,HWR.out⟩
end Go.Proofs.YtombmdaohcjokaaGreatDoor
namespace Go.Proofs.YtombmdaohcjokaaGreatDoor
open Go.RowKit
set_option maxRecDepth 100000 in
set_option maxHeartbeats 4000000 in
theorem clone_own (v:Value) (l:List _) (w:World) (hv:SliceOf Rep.int w.cell? v l) (hbig:l.length*8≤140737488355328) :
  Calls Tryz.prog 51 #[v] w fun e w'=> ∃v',e = .returned v'∧OwnOf Rep.int w' (fun _=>True) w.heap.size 3 v' l∧Ext w w':=by
 have q22 : ∀(w:World) (a:Option Addr) (n c n' c':Nat),(binOp .eql 29 (.slice a n c) (.slice none n' c')).run Tryz.prog w = .ok (.bool a.isNone) w:=fun w a n c n' c'=>Lib.run_eql_slice_nil w _ _ a n c n' c' Tryz.underlying29
 obtain⟨i0,hi,hz0,hz1,hz2⟩:=info_parts info_ints
 obtain⟨a,cap,rfl,hc1,hc2,_⟩:=hv.form
 cases a with
 |none =>
  have hl:l.length=0:=by
   obtain⟨css,h1,h2⟩:=hv
   rcases h2 with ⟨_,h0,_⟩ | ⟨ad,c,he,_⟩
   ·exact h0
   ·cases he
  have hln:l = []:=List.eq_nil_of_length_eq_zero hl
  subst hln
  go_enter Tryz.func51,Tryz.ntmps51
  go_wp2
  go_ret
  exact⟨_,rfl,OwnOf.nil _ _ _ _ _,Ext.refl w⟩
 |some ad =>
  have hw:SliceOf Rep.int (on (w.alloc (.cells #[] 3)) (avoid (fun _=>True) (.slice (some ⟨w.heap.size,0,none⟩) 0 0))) (.slice (some ad) l.length cap) l:=by
   by_cases hn:0<l.length
   ·have hx:=(Ext.refl w).alloc (.cells #[] 3)
    obtain⟨css,h1,h2⟩:=hv
    exact⟨css,h1.flatView flat_int,h2.sub fun p u hp=>on_some.2 ⟨⟨by have:=World.block_lt_of_cell? w p hp;simp [Value.ownBlock];omega,trivial⟩,hx.at hp⟩⟩
   ·obtain⟨css,h1,h2⟩:=hv
    have hln:l = []:=List.eq_nil_of_length_eq_zero (by omega)
    subst hln
    rcases h2 with ⟨he,_⟩ | ⟨ad',c',he,g1,g2,_⟩
    ·cases he
    ·injection he with e1 e2 e3
     injection e1 with e1
     subst e1 e3
     exact⟨[],trivial,.inr ⟨ad,cap,rfl,by simp,g2,.inl rfl⟩⟩
  have HW:=Lib.hid hw
  clear hv hw
  go_enter Tryz.func51,Tryz.ntmps51
  go_wp2_with (at_builtin;refine wpList_append_all Rep.int (fun _=>True) rfl _ _ 29 rfl w.heap.size 3 i0 _ 8 Tryz.underlying29 hi hz0 hz1 hz2 rfl (by decide) _ [] rfl (OwnOf.made _ w _ _) _ l rfl HW.out ?c1 ?c2 ?c3 ?_)
  case c1=>simp;omega
  case c2=>simpa using hbig
  case c3=>simp
  intro v' w1 hown hgr _
  go_wp2_with fail
  go_ret
  exact⟨v',rfl,(by simpa using hown),Below.grown (Below.alloc (Below.refl w.heap.size w) (Nat.le_refl _) _) hgr (by simp) (fun k hk=>by simp [Value.ownBlock]at hk;omega)⟩
theorem ints_slice {w:World} {S:Nat→Prop} {g n cap:Nat} (hS:S g) (hc:n≤cap) (hc2:cap≤maxLen) {xs:List Int} (hl:xs.length=n) (h : ∀i (hi:i<xs.length),w.cell? ⟨g,i,none⟩=some (.int .i64 xs[i])) (ho : ∀x∈xs,okI x) :
  SliceOf Rep.int (on w S) (.slice (some ⟨g,0,none⟩) n cap) xs:=by
 refine⟨xs.map fun x=> [.int .i64 x],?_,?_⟩
 ·clear h hl
  induction xs with
  |nil=>trivial
  |cons x xs ih=>exact⟨⟨rfl,ho x (by simp)⟩,ih fun y hy=>ho y (by simp [hy])⟩
 ·rw [hl]
  refine .inr ⟨_,cap,rfl,hc,hc2,.inr ⟨g,0,rfl,fun j u hj=> ?_⟩⟩
  have e:(xs.map fun x=> [Value.int .i64 x]).flatten=xs.map fun x=>Value.int .i64 x:=by
   clear h ho hl hj
   induction xs with
   |nil=>rfl
   |cons x xs ih=>simp [ih]
  rw [e,List.getElem?_map]at hj
  obtain⟨x,hx,rfl⟩:=Option.map_eq_some_iff.1 hj
  obtain⟨hi,rfl⟩:=List.getElem?_eq_some_iff.1 hx
  rw [Nat.zero_add]
  exact on_some.2 ⟨hS,h j hi⟩
theorem own_ints {w:World} {base:Nat} {e:TypeId} {v:Value} {xs:List Int} (h:OwnOf Rep.int w (fun _=>True) base e v xs) :
  ∃p cap g,v = .slice p xs.length cap∧xs.length≤cap∧cap≤maxLen∧FreeN w g xs.length∧(∀i (hi:i<xs.length),w.cell? ⟨g,i,none⟩=some (.int .i64 xs[i]))∧(0<xs.length→p=some ⟨g,0,none⟩∧base≤g)∧(xs.length=0→ ∀h:View,SliceOf Rep.int h (.slice p xs.length cap) []):=by
 by_cases h0:0<xs.length
 ·have hs:=h.slice
  obtain⟨css,h1,h2⟩:=h
  obtain⟨g,cap,rfl,hb,_,hc1,hc2,_⟩:=own_cells h2 h0
  have hf:=FreeN.made h2
  refine⟨_,cap,g,rfl,hc1,hc2,fun i hi=>hf i (by show i<cap*1;omega),fun i hi=> ?_,fun _=>⟨rfl,hb⟩,fun h=>by omega⟩
  have:=(int_at hs i hi).1
  rwa [Nat.zero_add]at this
 ·have hx:xs = []:=List.eq_nil_of_length_eq_zero (by omega)
  subst hx
  obtain⟨css,_,hv⟩:=h.slice
  rcases hv with ⟨rfl,_,_⟩ | ⟨ad,cap,rfl,hc1,hc2,_⟩
  ·exact⟨none,0,0,rfl,Nat.le_refl _,Nat.zero_le _,(fun i hi=>absurd hi (Nat.not_lt_zero i)),(fun i hi=>absurd hi (Nat.not_lt_zero i)),(fun hh=>absurd hh (Nat.lt_irrefl 0)),fun _ h=>SliceOf.nil _ _⟩
  ·exact⟨some ad,cap,0,rfl,hc1,hc2,(fun i hi=>absurd hi (Nat.not_lt_zero i)),(fun i hi=>absurd hi (Nat.not_lt_zero i)),(fun hh=>absurd hh (Nat.lt_irrefl 0)),fun _ h=>⟨[],trivial,.inr ⟨ad,cap,rfl,Nat.zero_le _,hc2,.inl rfl⟩⟩⟩
theorem compatC_len (a:List Int) : ∀b:List Int,a.length≠b.length→compatC a b=([],7):=by
 induction a with
 |nil=>intro b h;cases b with
  |nil=>exact absurd rfl h
  |cons y b=>rfl
 |cons x a ih=>intro b h;cases b with
  |nil=>rfl
  |cons y b =>
   have h2:=ih b (fun e=>h (by simp [e]))
   unfold compatC
   rw [h2]
   simp
theorem compatC_bad (a:List Int) : ∀(b:List Int) (i:Nat) (hi:i<a.length) (hj:i<b.length),badC a[i] b[i]=true→compatC a b=([],7):=by
 induction a with
 |nil=>intro b i hi;simp at hi
 |cons x a ih=>intro b i hi hj hb;cases b with
  |nil=>simp at hj
  |cons y b =>
   unfold compatC
   cases i with
   |zero=>rw [if_pos (by simpa using hb)]
   |succ i =>
    have h2:=ih b i (by simpa using hi) (by simpa using hj) (by simpa using hb)
    rw [h2]
    simp
theorem compatC_ok (a:List Int) : ∀b:List Int,a.length=b.length→(∀(i:Nat) (hi:i<a.length) (hj:i<b.length),badC a[i] b[i]=false)→compatC a b=(List.zipWith meetC a b,0):=by
 induction a with
 |nil=>intro b h _;cases b with
  |nil=>rfl
  |cons y b=>simp at h
 |cons x a ih=>intro b h hb;cases b with
  |nil=>simp at h
  |cons y b =>
   have h2:=ih b (by simpa using h) (fun i hi hj=>by have:=hb (i+1) (by simp;omega) (by simp;omega);simpa using this)
   have h0:=hb 0 (by simp) (by simp)
   simp only [List.getElem_cons_zero]at h0
   unfold compatC
   rw [if_neg (by rw [h0];decide),h2]
   simp
def meetJ (a b:List Int) (j i:Nat):Int:=if i<j then meetC (a.getD i 0) (b.getD i 0)else a.getD i 0
theorem meetJ_set {w:World} {g n j:Nat} {a b:List Int} (F:FreeN w g n) (h : ∀i,i<n→w.cell? ⟨g,i,none⟩=some (.int .i64 (meetJ a b j i))) (hj:j<n) (x:Int) (hx:x=meetC (a.getD j 0) (b.getD j 0)) :
  ∀i,i<n→(w.setCell ⟨g,j,none⟩ (.int .i64 x)).cell? ⟨g,i,none⟩=some (.int .i64 (meetJ a b (j+1) i)):=by
 intro i hi
 by_cases e:i=j
 ·subst e
  obtain⟨⟨u,hu⟩,_⟩:=F i hi
  have e2:meetJ a b (i+1) i=x:=by unfold meetJ;rw [if_pos (Nat.lt_succ_self i),hx]
  rw [e2]
  go_simp
 ·have e2:meetJ a b (j+1) i=meetJ a b j i:=by
   unfold meetJ
   by_cases c:i<j
   ·rw [if_pos (by omega),if_pos c]
   ·rw [if_neg (by omega),if_neg c]
  rw [e2]
  exact cell_far (h i hi) (Ne.symm e)
theorem meetJ_keep {w:World} {g n j:Nat} {a b:List Int} (h : ∀i,i<n→w.cell? ⟨g,i,none⟩=some (.int .i64 (meetJ a b j i))) (hx:a.getD j 0=meetC (a.getD j 0) (b.getD j 0)) :
  ∀i,i<n→w.cell? ⟨g,i,none⟩=some (.int .i64 (meetJ a b (j+1) i)):=by
 intro i hi
 rw [h i hi]
 unfold meetJ
 by_cases e:i=j
 ·subst e
  rw [if_neg (Nat.lt_irrefl i),if_pos (Nat.lt_succ_self i),←hx]
 ·by_cases c:i<j
  ·rw [if_pos c,if_pos (by omega)]
  ·rw [if_neg c,if_neg (by omega)]
theorem getD_at {l:List Int} {j:Nat} (h:j<l.length):l.getD j 0=l[j]:=by
 rw [List.getD_eq_getElem?_getD,List.getElem?_eq_getElem h];rfl
theorem meetC_ok {x y:Int} (hx:okI x) (hy:okI y):okI (meetC x y):=by unfold meetC;split <;> assumption
set_option maxRecDepth 100000 in
set_option maxHeartbeats 8000000 in
theorem compatible_any (va vb:Value) (a b:List Int) (w:World) (ha:SliceOf Rep.int w.cell? va a) (hb:SliceOf Rep.int w.cell? vb b) (hal:a.length≤1000) (hbl:b.length≤1000) :
  Calls Tryz.prog 147 #[va,vb] w fun e w'=> ∃v,e = .returned (.tuple #[v,.int .i64 (compatC a b).2])∧SliceOf Rep.int (on w' (fun k=>w.heap.size≤k)) v (compatC a b).1∧Ext w w':=by
 have mixed:=mixedA
 have HA:=Lib.hid ha
 have HB:=Lib.hid hb
 have HOA:=Lib.hid (ints_ok ha)
 have HOB:=Lib.hid (ints_ok hb)
 obtain⟨pa,ca,rfl,_,_,hpa⟩:=ha.form
 obtain⟨pb,cb,rfl,_,_,hpb⟩:=hb.form
 obtain⟨n,hn⟩ : ∃n,n=a.length:=⟨_,rfl⟩
 obtain⟨m,hm⟩ : ∃m,m=b.length:=⟨_,rfl⟩
 rw [←hn]at hpa HA hal
 rw [←hm]at hpb HB hbl
 rw [←hn,←hm]
 have HN:=Lib.hid hn
 have HM:=Lib.hid hm
 have HPA:=Lib.hid hpa
 have HPB:=Lib.hid hpb
 by_cases hnm:n=m
 ·have b0:((n:Int) != (m:Int))=false:=by simp [hnm]
  have HNM:=Lib.hid hnm
  clear ha hb hpa hpb hn hm hnm
  go_enter Tryz.func147,Tryz.ntmps147
  go_wp2_with fail
  refine(clone_own _ a _ (by have h:=HA.out;rw [HN.out]at h ⊢;exact h) (by have:=HN.out;omega)).mono ?_
  rintro e w1 ⟨v1,rfl,o1,x1⟩
  obtain⟨p,cap,g,rfl,hc1,hc2,hF,hcell,hpg,hze⟩:=own_ints o1
  rw [←HN.out]at hc1 hF hpg hze ⊢
  have HZE:=Lib.hid hze
  clear hze
  have HCAP:=Lib.hid (And.intro hc1 hc2)
  have HF:=Lib.hid hF
  have HCL:=Lib.hid (show ∀i,i<n→w1.cell? ⟨g,i,none⟩=some (.int .i64 (meetJ a b 0 i))from fun i hi=>by
   rw [hcell i (by have:=HN.out;omega)]
   unfold meetJ
   rw [if_neg (Nat.not_lt_zero i),getD_at (by have:=HN.out;omega)])
  have HPG:=Lib.hid hpg
  have HX1:=Lib.hid x1
  clear o1 hc1 hc2 hF hcell hpg x1
  go_wp2_with fail
  go_loopg [17] n (fun gj vi wr=> ∃(j:Nat),j≤n∧gj=n - j∧vi = .int .i64 j∧Hid (FreeN wr g n)∧Hid (∀i,i<n→wr.cell? ⟨g,i,none⟩=some (.int .i64 (meetJ a b j i)))∧Hid (∀i,i<j→badC (a.getD i 0) (b.getD i 0)=false)∧Hid (Ext w wr))
  case atStart=>exact⟨0,by omega,rfl,rfl,HF.out,HCL.out,(fun i hi=>absurd hi (Nat.not_lt_zero i)),HX1.out⟩
  case round =>
   clear HF HCL HX1
   obtain⟨j,hj,rfl,rfl,HF,HCL,HBD,HXX⟩:=hrel
   by_cases hjn:j<n
   ·have hdj:decide ((j:Int)<(n:Int))=true:=by simp;omega
    have hjx:(j:Int)<(n:Int):=by omega
    have hjm:(j:Int)<(m:Int):=by have:=HNM.out;omega
    obtain⟨rfl,hg⟩:=HPG.out (by omega)
    obtain⟨ba,oa,rfl⟩:=HPA.out (by decide) (by omega)
    obtain⟨bb,ob,rfl⟩:=HPB.out (by decide) (by have:=HNM.out;omega)
    have hja:j<a.length:=by have:=HN.out;omega
    have hjb:j<b.length:=by have:=HM.out;have:=HNM.out;omega
    obtain⟨d0,-⟩:=int_at (by have h:=HA.out;rw [HN.out]at h;exact h) j hja
    obtain⟨d1,-⟩:=int_at (by have h:=HB.out;rw [HM.out]at h;exact h) j hjb
    replace d0:=HXX.out.at d0
    replace d1:=HXX.out.at d1
    have ga:=getD_at hja
    have gb:=getD_at hjb
    have HBAD:=Lib.hid (fun h=>compatC_bad a b j hja hjb h)
    generalize a[j]=x at d0 ga HBAD
    generalize b[j]=y at d1 gb HBAD
    have HGA:=Lib.hid ga
    have HGB:=Lib.hid gb
    have HG:=Lib.hid hg
    have ed0:=cell_lt d0
    have ed1:=cell_lt d1
    have HBD2:=Lib.hid (show badC x y=false→ ∀i,i<j+1→badC (a.getD i 0) (b.getD i 0)=false from fun h i hi=>by
     by_cases c:i<j
     ·exact HBD.out i c
     ·have e:i=j:=by omega
      rw [e,HGA.out,HGB.out];exact h)
    obtain⟨⟨u,hu⟩,hf⟩:=HF.out j hjn
    have eu:=cell_lt hu
    have hjc:(j:Int)<(cap:Int):=by have:=HCAP.out.1;omega
    clear hja hjb ga gb hg
    by_cases h0:x=0
    ·have b1:(x==0)=true:=by simp [h0]
     have HB3:=Lib.hid (HBD2.out (by unfold badC;simp [h0]))
     have HMT:=Lib.hid (show y=meetC (a.getD j 0) (b.getD j 0)from by rw [HGA.out,HGB.out];unfold meetC;rw [if_pos h0])
     clear h0
     go_wp2_with fail
     go_roundg (n - (j+1))
     case measure=>omega
     case rel=>exact⟨j+1,by omega,rfl,by go_num,HF.out.set _ _,meetJ_set HF.out HCL.out hjn y HMT.out,HB3.out,Below.setCell HXX.out HG.out _⟩
    ·have b1:(x==0)=false:=by simp [h0]
     have HMT:=Lib.hid (show a.getD j 0=meetC (a.getD j 0) (b.getD j 0)from by rw [HGA.out];unfold meetC;rw [if_neg h0])
     by_cases h1:x=y
     ·have b2:(x != y)=false:=by simp [h1]
      have HB3:=Lib.hid (HBD2.out (by unfold badC;simp [h1]))
      clear h0 h1
      go_wp2_with fail
      go_big_region_o
      go_wp2_with fail
      go_roundg (n - (j+1))
      case measure=>omega
      case rel=>exact⟨j+1,by omega,rfl,by go_num,HF.out.ext (Ext.refl wr).drew,meetJ_keep HCL.out HMT.out,HB3.out,HXX.out.drew⟩
     ·have b2:(x != y)=true:=by simp [h1]
      by_cases h2:y=0
      ·have b3:(y != 0)=false:=by simp [h2]
       have HB3:=Lib.hid (HBD2.out (by unfold badC;simp [h2]))
       clear h0 h1 h2
       go_wp2_with fail
       go_big_region_o
       go_wp2_with fail
       go_roundg (n - (j+1))
       case measure=>omega
       case rel=>exact⟨j+1,by omega,rfl,by go_num,HF.out.ext (Ext.refl wr).drew,meetJ_keep HCL.out HMT.out,HB3.out,HXX.out.drew⟩
      ·have b3:(y != 0)=true:=by simp [h2]
       have HR:=Lib.hid (HBAD.out (by unfold badC;simp [h0,h1,h2]))
       clear h0 h1 h2
       go_wp2_with fail
       go_big_region_o
       go_wp2_with fail
       exact bodyPost_ret (v:= .tuple #[.slice none 0 0,.int .i64 7]) (by simp [results,Tryz.results147,go_sem]) rfl ⟨_,by rw [HR.out],by rw [HR.out];exact SliceOf.nil _ _,HXX.out.drew⟩
   ·have hjn2:j=n:=by omega
    have hdj:decide ((j:Int)<(n:Int))=false:=by simp;omega
    have HR:=Lib.hid (show compatC a b=(List.zipWith meetC a b,0)from compatC_ok a b (by have h1:=HN.out;have h2:=HM.out;have h3:=HNM.out;omega) (fun i hi hj=>by
     have h:=HBD.out i (by have:=HN.out;omega)
     rwa [getD_at hi,getD_at hj]at h))
    have HZL:=Lib.hid (show (List.zipWith meetC a b).length=n from by rw [List.length_zipWith];have h1:=HN.out;have h2:=HM.out;have h3:=HNM.out;omega)
    have HSL:=Lib.hid (show SliceOf Rep.int (on wr fun k=>w.heap.size≤k) (.slice p n cap) (List.zipWith meetC a b)from by
     by_cases c:0<n
     ·obtain⟨rfl,hg⟩:=HPG.out c
      refine ints_slice hg HCAP.out.1 HCAP.out.2 HZL.out (fun i hi=> ?_) (fun z hz=> ?_)
      ·rw [List.length_zipWith]at hi
       rw [HCL.out i (by have:=HN.out;omega),List.getElem_zipWith]
       unfold meetJ
       rw [if_pos (by have:=HN.out;omega),getD_at (by omega),getD_at (by omega)]
      ·obtain⟨i,hi,rfl⟩:=List.getElem_of_mem hz
       rw [List.getElem_zipWith]
       exact meetC_ok (HOA.out _ (List.getElem_mem _)) (HOB.out _ (List.getElem_mem _))
     ·have hz:List.zipWith meetC a b = []:=List.eq_nil_of_length_eq_zero (by have:=HZL.out;omega)
      rw [hz]
      exact HZE.out (by omega) _)
    clear hjn2
    go_wp2_with fail
    exact bodyPost_ret (v:= .tuple #[.slice p n cap,.int .i64 0]) (by simp [results,Tryz.results147,go_sem]) rfl ⟨_,by rw [HR.out],by rw [HR.out];exact HSL.out,HXX.out⟩
 ·have b0:((n:Int) != (m:Int))=true:=by simp;omega
  have HR:=Lib.hid (show compatC a b=([],7)from compatC_len a b (by omega))
  clear ha hb hpa hpb hn hm hnm
  go_enter Tryz.func147,Tryz.ntmps147
  go_wp2_with fail
  exact bodyPost_ret (v:= .tuple #[.slice none 0 0,.int .i64 7]) (by simp [results,Tryz.results147,go_sem]) rfl ⟨_,by rw [HR.out],by rw [HR.out];exact SliceOf.nil _ _,Ext.refl w⟩
end Go.Proofs.YtombmdaohcjokaaGreatDoor
