/- joined texts of a proof: RefH -/
import Derived.Test.YtkddkbpoefidpaaGreatDoorKG22
import Derived.Test.YtkddkbpoefidpaaGreatDoorKG20
import Derived.Test.YtkddkbpoefidpaaGreatDoorKG08
import Derived.Test.YtkddkbpoefidpaaGreatDoorKG14
import Derived.Deep.DeepCutAuto
import Derived.Test.YtkddkbpoefidpaaGreatDoorKG18
namespace Go.Proofs.YtkddkbpoefidpaaGreatDoor
open Go.RowKit Go.Deep
theorem keepY2 {W wa wb:World} {b1 b2 o1 o2:Nat} {v1 v2:Value} {row:Option Nat} (h:Ext W wa∧wa.cell? ⟨b1,o1,none⟩=some v1∧wa.cell? ⟨b2,o2,none⟩=some v2) (gr:wa.grownBy wb row) (hW : ∀k,row=some k→W.heap.size≤k) (hne : ∀k,row=some k→k≠b1∧k≠b2) :
  Ext W wb∧wb.cell? ⟨b1,o1,none⟩=some v1∧wb.cell? ⟨b2,o2,none⟩=some v2 :=
 ⟨ext_grown h.1 gr hW,cell_grown gr h.2.1 (fun k hk=>(hne k hk).1),cell_grown gr h.2.2 (fun k hk=>(hne k hk).2)⟩
theorem SliceOf.pre {α:Type} {R:Rep α} {w:View} {p:Option Addr} {cap n:Nat} {xs:List α} (h:SliceOf R w (.slice p n cap) xs) (k:Nat) (hk:k≤xs.length):SliceOf R w (.slice p k cap) (xs.take k):=by
 obtain⟨css,h1,h2⟩:=h
 rcases h2 with ⟨hv,h0,hx⟩ | ⟨ad,c2,hv,hc1,hc2,h3⟩
 ·injection hv with e1 e2 e3
  subst e1 e3
  obtain rfl:k=0:=by omega
  exact SliceOf.nil _ _
 ·injection hv with e1 e2 e3
  subst e1 e3
  have hl:(xs.take k).length=k:=by rw [List.length_take];omega
  refine⟨css.take k,h1.take k,.inr ⟨ad,cap,by rw [hl],by rw [hl];omega,hc2,?_⟩⟩
  have hf:css.flatten=(css.take k).flatten++(css.drop k).flatten:=by rw [←List.flatten_append,List.take_append_drop]
  rcases h3 with h3 | ⟨b,o,rfl,h3⟩
  ·rw [h3]at hf
   exact .inl (List.append_eq_nil_iff.1 hf.symm).1
  ·refine .inr ⟨b,o,rfl,fun j u hj=>h3 j u ?_⟩
   rw [hf,List.getElem?_append_left (List.getElem?_eq_some_iff.1 hj).1]
   exact hj
theorem SliceOf.suf {α:Type} {R:Rep α} {w:View} {p:Option Addr} {cap n:Nat} {xs:List α} (h:SliceOf R w (.slice p n cap) xs) (k:Nat) (hk:k≤xs.length):SliceOf R w (.slice (if cap=k then p else p.map (·.add (k*R.size))) (xs.length - k) (cap - k)) (xs.drop k):=by
 obtain⟨css,h1,h2⟩:=h
 have hf:css.flatten=(css.take k).flatten++(css.drop k).flatten:=by rw [←List.flatten_append,List.take_append_drop]
 have hl:(css.take k).flatten.length=k*R.size:=by rw [(h1.take k).flat,List.length_take,Nat.min_eq_left hk]
 rcases h2 with ⟨hv,h0,hx⟩ | ⟨ad,c2,hv,hc1,hc2,h3⟩
 ·injection hv with e1 e2 e3
  subst e1 e3
  obtain rfl:k=0:=by omega
  obtain rfl:xs = []:=List.eq_nil_of_length_eq_zero h0
  exact SliceOf.nil _ _
 ·injection hv with e1 e2 e3
  subst e1 e3
  refine⟨css.drop k,h1.drop k,.inr ⟨if cap=k then ad else ad.add (k*R.size),cap - k,?_,?_,by omega,?_⟩⟩
  ·rw [List.length_drop]
   split <;> rfl
  ·rw [List.length_drop];omega
  ·by_cases hc:cap=k
   ·have:xs.length=k:=by omega
    exact .inl (List.eq_nil_of_length_eq_zero (by rw [(h1.drop k).flat,List.length_drop,this,Nat.sub_self,Nat.zero_mul]))
   ·rw [if_neg hc]
    rcases h3 with h3 | ⟨b,o,rfl,h3⟩
    ·rw [h3]at hf
     exact .inl (List.append_eq_nil_iff.1 hf.symm).2
    ·refine .inr ⟨b,o+k*R.size,by rw [add_lit],fun j u hj=> ?_⟩
     rw [Nat.add_assoc]
     refine h3 _ u ?_
     rw [hf,List.getElem?_append_right (by omega),hl,Nat.add_sub_cancel_left]
     exact hj
theorem ok_aggR (kind:Int) {xs:List Val} (h : ∀v∈xs,okVal v) (hl:xs.length≤1048576):okVal (aggR kind xs):=by
 have hn : ∀v∈nnV xs,okVal v:=fun v hv=>h v (List.mem_filter.1 hv).1
 unfold aggR bestMin bestMax
 split
 ·exact ok_intVal (by unfold fit64;omega)
 split
 ·exact ok_sumV xs
 split
 ·split
  ·exact ok_nV
  ·rename_i hne;exact hn _ (pickMin_mem hne)
 split
 ·split
  ·exact ok_nV
  ·rename_i hne;exact hn _ (pickMax_mem hne)
 exact ok_nV
set_option maxRecDepth 100000 in
set_option maxHeartbeats 16000000 in
theorem refGroup_any (va:Value) (rows:List Row) (ve:Value) (es:List ExprI) (vk:Value) (keys:List Int) (vg:Value) (aggs:List AggI) (w:World) (ha:SliceOf Rep.row w.cell? va rows) (hla:rows.length≤1000) (hfa : ∀r∈rows,r.vals.length≤1000∧r.lin.length≤1000)
  (he:SliceOf Rep.expr w.cell? ve es) (hel:es.length≤1000) (hk:SliceOf Rep.int w.cell? vk keys) (hkl:keys.length≤1000) (hg:SliceOf Rep.agg w.cell? vg aggs) (hgl:aggs.length≤1000) :
  Calls Tryz.prog 61 #[va,ve,vk,vg] w fun e w'=> ∃v',e = .returned v'∧SliceOf Rep.row (on w' (since w)) v' (groupR es keys aggs rows)∧Ext w w':=by
 obtain⟨i0,hi,hz0,hz1,hz2⟩:=info_parts infoRow
 obtain⟨i1,hi1,hz10,hz11,hz12⟩:=info_parts info_valC
 obtain⟨i2,hi2,hz20,hz21,hz22⟩:=info_parts infoRows
 have HA:=Lib.hid ha
 have HE:=Lib.hid he
 have HEL:=Lib.hid hel
 have HK:=Lib.hid hk
 have HKL:=Lib.hid hkl
 have HG:=Lib.hid hg
 have HGL:=Lib.hid hgl
 have HFA:=Lib.hid hfa
 have HLA:=Lib.hid hla
 obtain⟨pa,ca,rfl,_,_,hpa⟩:=ha.form
 obtain⟨pe,ce,rfl,_⟩:=he.form
 obtain⟨pk,ck,rfl,_⟩:=hk.form
 obtain⟨pg,cg,rfl,_,_,hpg⟩:=hg.form
 have HPA:=Lib.hid hpa
 have HPG:=Lib.hid hpg
 obtain⟨N,hN⟩ : ∃n,n=rows.length:=⟨_,rfl⟩
 obtain⟨nE,hnE⟩ : ∃n,n=es.length:=⟨_,rfl⟩
 obtain⟨K,hK⟩ : ∃n,n=keys.length:=⟨_,rfl⟩
 obtain⟨G,hG⟩ : ∃n,n=aggs.length:=⟨_,rfl⟩
 rw [←hN]at HA HPA ⊢
 rw [←hnE]at HE ⊢
 rw [←hK]at HK ⊢
 rw [←hG]at HG HPG ⊢
 have HN:=Lib.hid hN
 have HKK:=Lib.hid hK
 have HGG:=Lib.hid hG
 have hNl:N≤1000:=by omega
 have hKl:K≤1000:=by omega
 have hGl:G≤1000:=by omega
 have HGR:=Lib.hid (show groupR es keys aggs rows=(gRuns K (sortBy cmpRow (rows.map (keyR es keys)))).map (gRow1 es K aggs)from by rw [hK];rfl)
 clear ha he hk hg hla hel hkl hgl hfa hpa hpg hN hnE hK hG
 have mixed:=mixedOrd
 go_enter Tryz.func61,Tryz.ntmps61
 go_wp2_with fail
 go_loopg [9,29] N (fun gk vo vi wr=> ∃(k:Nat) (u:Value),k≤N∧gk=N - k∧vi = .int .i64 k∧u=vo∧Hid (OwnOf Rep.row wr (fun _=>True) w.heap.size 70 u ((rows.take k).map (keyR es keys)))∧Hid (Ext w wr))
 case atStart=>exact⟨0,_,by omega,rfl,rfl,rfl,OwnOf.nil _ _ _ _ _,Ext.refl w⟩
 case round =>
  obtain⟨k,u,hk,rfl,rfl,rfl,OW,X⟩:=hrel
  by_cases hlt:k<N
  ·have hkl:k<rows.length:=by have:=HN.out;omega
   have hd:decide ((k:Int)<(N:Int))=true:=by simp;omega
   obtain⟨ba,oa,rfl⟩:=HPA.out (by decide) (by omega)
   have hv:=HA.out
   rw [HN.out]at hv
   obtain⟨ua,ub,c0,c1,g0,g1⟩:=row_at hv k hkl
   obtain⟨pxa,kxa,rfl,_⟩:=g0.form
   obtain⟨pxb,kxb,rfl,-⟩:=g1.form
   have hst:(rows.take (k+1)).map (keyR es keys)=(rows.take k).map (keyR es keys) ++ [keyR es keys rows[k]]:=by rw [List.take_succ_eq_append_getElem hkl,List.map_append];rfl
   have hfx:=HFA.out rows[k] (List.getElem_mem hkl)
   have hol:((rows.take k).map (keyR es keys)).length≤1000:=by rw [List.length_map,List.length_take];omega
   obtain⟨o,ho⟩ : ∃z,z=(rows.take k).map (keyR es keys):=⟨_,rfl⟩
   rw [←ho]at OW hst hol
   replace c0:=X.out.at c0
   replace c1:=X.out.at c1
   generalize rows[k]=x at c0 c1 g0 g1 hst hfx
   obtain⟨xv,xl⟩:=x
   dsimp only at c0 c1 g0 g1 hfx
   have HST:=Lib.hid (show (rows.take (k+1)).map (keyR es keys)=o ++ [⟨projE es keys xv++xv,xl⟩]from hst)
   have hpl:(projE es keys xv).length=K:=by rw [projE_len,HKK.out]
   obtain⟨pv,hpv⟩ : ∃z,z=projE es keys xv:=⟨_,rfl⟩
   rw [←hpv]at HST hpl
   have HPV:=Lib.hid hpv
   have HPL:=Lib.hid hpl
   obtain⟨nv,hnv⟩ : ∃z,z=xv.length:=⟨_,rfl⟩
   obtain⟨nl,hnl⟩ : ∃z,z=xl.length:=⟨_,rfl⟩
   rw [←hnv]at c0 g0
   rw [←hnl]at c1 g1
   have HNV:=Lib.hid hnv
   have G0:=Lib.hid g0
   have G1:=Lib.hid g1
   have A1:pv.length+xv.length≤maxLen:=by rw [hpl];unfold maxLen;omega
   have A2:(pv.length+xv.length)*32≤140737488355328:=by rw [hpl];omega
   have B1:o.length+1≤maxLen:=by unfold maxLen;omega
   have B2:(o.length+1)*48≤140737488355328:=by omega
   obtain⟨n5,hn5⟩ : ∃z,z=(pv++xv).length:=⟨_,rfl⟩
   have HN5:=Lib.hid hn5
   obtain⟨pu,cu,hu,_⟩:=OW.out.slice.form
   subst hu
   obtain⟨no,hno⟩ : ∃z,z=o.length:=⟨_,rfl⟩
   rw [←hno]at OW ⊢
   have HUL:=Lib.hid (fun b hb=>OW.out.lt b hb)
   have e0:=cell_lt c0
   clear hv g0 g1 hst hfx hol ho hpl hpv hnv hnl hn5 hno
   go_wp2_with fail
   have xn:=(Ext.refl wr).alloc (.cells #[.slice pxa nv kxa,.slice pxb nl kxb] 70)
   have b0:(wr.alloc (.cells #[.slice pxa nv kxa,.slice pxb nl kxb] 70)).cell? ⟨wr.heap.size,0,none⟩=some (.slice pxa nv kxa):=by go_simp
   have b1:(wr.alloc (.cells #[.slice pxa nv kxa,.slice pxb nl kxb] 70)).cell? ⟨wr.heap.size,1,none⟩=some (.slice pxb nl kxb):=by go_simp
   have hsz:(wr.alloc (.cells #[.slice pxa nv kxa,.slice pxb nl kxb] 70)).heap.size=wr.heap.size+1:=by simp
   generalize (wr.alloc (.cells #[.slice pxa nv kxa,.slice pxb nl kxb] 70))=w8 at xn b0 b1 hsz ⊢
   have hS0:Ext w w8.drew∧w8.drew.cell? ⟨wr.heap.size,0,none⟩=some (.slice pxa nv kxa)∧w8.drew.cell? ⟨wr.heap.size,1,none⟩=some (.slice pxb nl kxb):=⟨(X.out.trans xn).drew,b0,b1⟩
   have HSZ:=Lib.hid (show w8.drew.heap.size=wr.heap.size+1 from hsz)
   have O8:=Lib.hid ((OW.out.weak (T:=fun k=>k<wr.heap.size) (fun k hk _=>hk) (Nat.le_refl _)).ext xn.drew)
   have HPWR:=Lib.hid X.out.size
   clear c0 c1 e0 xn b0 b1 hsz
   go_region_held3 (fun w'=>Ext w w'∧w'.cell? ⟨wr.heap.size,0,none⟩=some (.slice pxa nv kxa)∧w'.cell? ⟨wr.heap.size,1,none⟩=some (.slice pxb nl kxb))
    (first |with_reducible assumption | with_reducible exact keepE2 (by assumption) x4 | with_reducible exact keepE2 (by assumption) ((Ext.refl _).alloc _))
    (first
     |(go_at_call 117;refine(refValues_any _ es _ keys _ xv _ (by exact HE.out.ext hS0.1.full) HEL.out (by exact HK.out.ext hS0.1.full) HKL.out (by exact G0.out.ext hS0.1.full)).mono ?_;rintro e w4 ⟨v4,rfl,own4,x4⟩;rw [←HPV.out]at own4;obtain⟨p4,k4,hv4,_⟩:=own4.slice.form;subst hv4;rw [HPL.out]at own4 ⊢;have O4:=Lib.hid own4;have K4:=keepE2 hS0 x4;have OW4:=Lib.hid (O8.out.ext x4);have SZ4:=Lib.hid x4.size;clear own4)
     |((with_reducible refine key_op 41 ?_);refine step_append_all Rep.val (fun _=>True) rfl _ _ 68 rfl w8.drew.heap.size 73 i1 _ 32 Tryz.underlying68 hi1 hz10 hz11 hz12 rfl (by decide) (.slice p4 K k4) pv rfl O4.out (.slice pxa nv kxa) xv rfl (G0.out.ext (old_all K4.1 (fun k hk=>by have h1:=(O4.out.lt k hk).1;have h2:=HSZ.out;have h3:=HPWR.out;omega))) A1 A2 SZ4.out ?_;intro v5 w5 own5 gr5 at5;obtain⟨p5,k5,hv5,_⟩:=own5.slice.form;subst hv5;rw [←HN5.out]at own5 ⊢;have O5:=Lib.hid own5;have K5:=keepY2 K4 gr5 (fun k hk=>by have h1:=(O4.out.lt k hk).1;have h2:=HSZ.out;have h3:=HPWR.out;omega) (fun k hk=>by have h1:=(O4.out.lt k hk).1;have h2:=HSZ.out;omega);have OW5:=Lib.hid (own_grown OW4.out gr5 (fun k hk e=>by have h1:=(O4.out.lt k e).1;have h2:=HSZ.out;omega) (fun k hk e=>by have h1:=(O4.out.lt k e).1;have h2:=HSZ.out;have h3:=(HUL.out k hk).2;omega));clear own5)
     |((with_reducible refine key_op 46 ?_);refine step_append_one Rep.row (fun _=>True) rfl _ _ 52 rfl w.heap.size 70 i0 _ 48 Tryz.underlying52 hi hz0 hz1 hz2 rfl (by decide) (.slice pu no cu) o rfl ((OW5.out.weak (T:=fun _=>True) (fun _ _ _=>trivial) (Nat.le_refl _)).ext ((Ext.refl _).alloc _)) ⟨_,0,none⟩ 1 ⟨pv++xv,xl⟩ [.slice p5 n5 k5,.slice pxb nl kxb] rfl (row_holds O5.out ((Ext.refl _).alloc _) G1.out (K5.1.alloc _) (fun b hb=>by have h1:=HUL.out b hb;have h2:=HSZ.out;exact⟨by omega,h1.1⟩)) (cells_new _ [.slice p5 n5 k5,.slice pxb nl kxb] _) B1 B2 (K5.1.alloc _).size ?_;intro g9 c9 w9 own9 gr9 hat9;have K9:=keepY2 (keepE2 K5 ((Ext.refl _).alloc _)) gr9 (fun b hb=>(HUL.out b hb).1) (fun b hb=>by have h1:=HUL.out b hb;omega);have O9:=Lib.hid own9;clear own9 gr9 hat9)
     |fail)
   all_goals
    have X9:=Lib.hid K9.1
    clear hS0
    go_wp2_with fail
    go_roundg (N - (k+1))
    case measure=>omega
    case rel=>exact⟨k+1,_,by omega,rfl,by go_num,rfl,by show OwnOf _ _ _ _ _ _ _;rw [HST.out];exact O9.out,X9.out⟩
  ·have hkN:k=N:=by omega
   have hd : ¬(k:Int)<(N:Int):=by omega
   obtain⟨w1,rfl⟩ : ∃z,z=wr:=⟨wr,rfl⟩
   have hall:rows.take k=rows:=by rw [hkN,HN.out,List.take_length]
   rw [hall]at OW
   have hLn:(rows.map (keyR es keys)).length=N:=by rw [List.length_map,HN.out]
   obtain⟨L,hL⟩ : ∃z,z=rows.map (keyR es keys):=⟨_,rfl⟩
   rw [←hL]at OW hLn HGR
   obtain⟨pu,cu,hu,_⟩:=OW.out.slice.form
   subst hu
   rw [hLn]at OW ⊢
   have HLN:=Lib.hid hLn
   have HLK:=Lib.hid (show ∀r∈L,K≤r.vals.length∧r.vals.length≤2000∧r.lin.length≤1000 from fun r hr=>by
    rw [hL]at hr
    obtain⟨x,hx,rfl⟩:=List.mem_map.1 hr
    have h1:=HFA.out x hx
    have h2:(projE es keys x.vals).length=K:=by rw [projE_len,HKK.out]
    unfold keyR
    rw [List.length_append,h2]
    dsimp only
    omega)
   clear hkN hall hL hLn hlt hk
   obtain⟨B,hB⟩ : ∃z,z=w1.heap.size:=⟨_,rfl⟩
   have HB:=Lib.hid hB
   go_upto_if 50 with fail
   go_cut [13] (fun vs wx=> ∃v13,v13=vs∧Hid ((K=0∧v13 = .slice (some ⟨B,0,none⟩) 1 1∧Ext (w1.alloc (.cells #[.slice none 0 0] 52)) wx)∨(K≠0∧v13 = .slice none 0 0))∧Hid (Ext w1 wx))
   case first =>
    by_cases hK0:K=0
    ·have hKd:((K:Int)==0)=true:=by simp [hK0]
     have HK0:=Lib.hid hK0
     clear hK0 hB
     go_wp2_with fail
     go_meet
     exact⟨_,rfl,.inl ⟨HK0.out,by rw [HB.out],Ext.refl _⟩,(Ext.refl _).alloc _⟩
    ·have hKd:((K:Int)==0)=false:=by simp;omega
     have HK0:=Lib.hid hK0
     clear hK0 hB
     go_wp2_with fail
     go_meet
     exact⟨_,rfl,.inr ⟨HK0.out,rfl⟩,Ext.refl _⟩
   case rest =>
    obtain⟨v13,rfl,HV,X1⟩:=hcut
    clear hB hd
    have hT : ∀b,wc.heap.size≤b→ ¬Value.ownBlock v13=some b:=fun b hb e=>by
     rcases HV.out with ⟨_,h2,h3⟩ | ⟨_,h2⟩
     ·rw [h2]at e
      have e:B=b:=Option.some.inj e
      have h4:=h3.size
      have h5:=HB.out
      rw [alloc_size]at h4
      omega
     ·rw [h2]at e;cases e
    have hin:SliceOf Rep.row (on wc fun b=> ¬Value.ownBlock v13=some b) (.slice pu N cu) L:=OW.out.slice.ext fun p x e=>on_some.2 ⟨fun e2=>(by
     have hp:=World.block_lt_of_cell? w1 p e
     rcases HV.out with ⟨_,h2,h3⟩ | ⟨_,h2⟩
     ·rw [h2]at e2
      have e2:B=p.block:=Option.some.inj e2
      have h5:=HB.out
      omega
     ·rw [h2]at e2;cases e2),X1.out.at e⟩
    go_wp2_with fail
    refine(ref_sortT (fun b=> ¬Value.ownBlock v13=some b) L.length L (Nat.le_refl _) _ _ (by have:=HLN.out;omega) hT hin).mono ?_
    rintro e w2 ⟨v2,rfl,s2,x2⟩
    have hsl:(sortBy cmpRow L).length=N:=by rw [sortBy_length];exact HLN.out
    have HSK:=Lib.hid (show ∀r∈sortBy cmpRow L,K≤r.vals.length∧r.vals.length≤2000∧r.lin.length≤1000 from fun r hr=>HLK.out r ((sortBy_perm _ _).mem_iff.1 hr))
    obtain⟨M,hM⟩ : ∃z,z=sortBy cmpRow L:=⟨_,rfl⟩
    rw [←hM]at s2 hsl HSK HGR
    obtain⟨p2,c2,rfl,_,_,hp2⟩:=s2.form
    rw [hsl]at s2 hp2 ⊢
    have HP2:=Lib.hid hp2
    have HML:=Lib.hid hsl
    have HX2:=Lib.hid (X1.out.trans x2)
    obtain⟨S,hS⟩ : ∃S:Nat→Prop,S=fun b=>b<w2.heap.size∧ ¬Value.ownBlock v13=some b:=⟨_,rfl⟩
    obtain⟨C,hC⟩ : ∃C:Nat→Prop,C=fun b=>Value.ownBlock v13=some b:=⟨_,rfl⟩
    have A0:=Lib.hid (show SliceOf Rep.row (on w2 S) (.slice p2 N c2) M from s2.ext (on_mono _ fun b hb hn=>by rw [hS];exact⟨hb,hn⟩))
    have HSC:=Lib.hid (show (∀b,S b→ ¬C b)∧(∀b,S b→b<w2.heap.size)∧(∀b,w2.heap.size≤b→ ¬S b)∧(∀b,C b→ ¬S b)∧(∀b,C b→w.heap.size≤b)from by
     rw [hS,hC]
     refine⟨fun b h=>h.2,fun b h=>h.1,fun b h1 h2=>by have:=h2.1;omega,fun b h1 h2=>h2.2 h1,fun b h=> ?_⟩
     rcases HV.out with ⟨_,h2,h3⟩ | ⟨_,h2⟩
     ·rw [h2]at h
      have e2:B=b:=Option.some.inj h
      have h5:=HB.out
      have h6:=X.out.size
      omega
     ·rw [h2]at h;cases h)
    have HW2:=Lib.hid (X.out.trans HX2.out)
    have HST:=Lib.hid (show (gRuns K (M.take 0) = []∧v13 = .slice none 0 0∧K≠0)∨ ∃u done cur,gRuns K (M.take 0)=done ++ [cur]∧GrpAt w2 S B w2.heap.size 52 70 v13 u done cur from by
     rcases HV.out with ⟨h1,h2,h3⟩ | ⟨h1,h2⟩
     ·refine .inr ⟨.slice none 0 0,[],[],by rw [List.take_zero];unfold gRuns gStart;rw [if_pos h1];rfl,?_⟩
      have h4:=GrpAt.start w1 S 52 70 (h3.trans x2) (fun h=>by rw [hS]at h;exact h.2 (by rw [h2,HB.out];rfl)) HSC.out.2.1
      rw [h2,HB.out]
      exact h4
     ·exact .inl ⟨by rw [List.take_zero];unfold gRuns gStart;rw [if_neg h1];rfl,h2,h1⟩)
    have HCV:=Lib.hid (show ∀b,Value.ownBlock v13=some b→C b∨w2.heap.size≤b from fun b h=> .inl (by rw [hC];exact h))
    have HBB:=Lib.hid (show w.heap.size≤B∧B≤w2.heap.size from ⟨by rw [HB.out];exact X.out.size,by rw [HB.out];exact HX2.out.size⟩)
    obtain⟨B2,hB2⟩ : ∃z,z=w2.heap.size:=⟨_,rfl⟩
    rw [←hB2]at HST HCV HBB HSC
    have HB2:=Lib.hid hB2
    clear hM hsl s2 hp2 hS hC hT hin x2 HV X1 OW hB2 X HX2
    go_wp2_with fail
    go_loopg [13,55] N (fun gk vo vi wr=> ∃(k:Nat) (uo:Value),k≤N∧gk=N - k∧vi = .int .i64 k∧uo=vo∧Hid ((gRuns K (M.take k) = []∧uo = .slice none 0 0∧K≠0)∨ ∃u done cur,gRuns K (M.take k)=done ++ [cur]∧GrpAt wr S B B2 52 70 uo u done cur)∧Hid (∀b,Value.ownBlock uo=some b→C b∨B2≤b)∧Hid (Chg C w2 wr))
    case atStart=>exact⟨0,_,by omega,rfl,rfl,rfl,HST.out,HCV.out,Chg.refl _ _⟩
    case round =>
      obtain⟨k,uo,hk,rfl,rfl,rfl,HST1,HCV1,HCH⟩:=hrel
      by_cases hlt:k<N
      · have hkl:k<M.length:=by have:=HML.out;omega
        have hd:decide ((k:Int)<(N:Int))=true:=by simp;omega
        obtain⟨ba,oa,rfl⟩:=HP2.out (by decide) (by omega)
        have hv:=A0.out.chg HCH.out HSC.out.1
        rw [←HML.out]at hv
        obtain⟨ua,ub,c0,c1,g0,g1⟩:=row_at hv k hkl
        obtain⟨pxa,kxa,rfl,hkx,-,hpx⟩:=g0.form
        obtain⟨pxb,kxb,rfl,-⟩:=g1.form
        have hst:=gRuns_take K M k hkl
        have hfx:=HSK.out M[k] (List.getElem_mem hkl)
        have hgl:=gRuns_len K (M.take k)
        have hgm:=gRuns_mem K (fun r=>K≤r.vals.length∧r.vals.length≤2000∧r.lin.length≤1000) (M.take k) (fun r hr=>HSK.out r (List.mem_of_mem_take hr))
        rw [List.length_take,Nat.min_eq_left (Nat.le_of_lt hkl)]at hgl
        obtain⟨R,hR⟩ : ∃z,z=gRuns K (M.take k):=⟨_,rfl⟩
        rw [←hR]at HST1 hst hgl hgm
        replace c0:=(on_some.1 c0).2
        replace c1:=(on_some.1 c1).2
        generalize M[k]=x at c0 c1 g0 g1 hst hfx hkx hpx
        obtain⟨xv,xl⟩:=x
        dsimp only at c0 c1 g0 g1 hst hfx hkx hpx
        have HST:=Lib.hid hst
        have HFX:=Lib.hid hfx
        obtain⟨nv,hnv⟩ : ∃z,z=xv.length:=⟨_,rfl⟩
        obtain⟨nl,hnl⟩ : ∃z,z=xl.length:=⟨_,rfl⟩
        rw [←hnv]at c0 g0 hfx hkx hpx
        rw [←hnl]at c1 g1
        have HNV:=Lib.hid hnv
        have G0:=Lib.hid g0
        have G1:=Lib.hid g1
        have HKX:=Lib.hid hkx
        have HPX:=Lib.hid hpx
        have hKn:K≤nv:=hfx.1
        have e0:=cell_lt c0
        clear hv g0 g1 hst hfx hnv hnl hR hkl hkx hpx
        rcases HST1.out with ⟨h1,rfl,h3⟩ | ⟨u,done,cur,h1,h2⟩
        ·have HR:=Lib.hid h1
         have hw1:IntKind.i64.wrap (0 - 1) = -1:=by decide
         have hw2:IntKind.i64.wrap (-1) = -1:=by decide
         have hd15:decide ((-1:Int)<0)=true:=by decide
         have HST9:=Lib.hid (show gRuns K (M.take (k+1)) = [] ++ [[] ++ [⟨xv,xl⟩]]from by rw [HST.out,h1];rfl)
         clear h1 h3 hgl hgm
         go_wp2_with fail
         go_big_region_o
         have xn:=(Ext.refl wr).alloc (.cells #[.slice pxa nv kxa,.slice pxb nl kxb] 70)
         have b0:(wr.alloc (.cells #[.slice pxa nv kxa,.slice pxb nl kxb] 70)).cell? ⟨wr.heap.size,0,none⟩=some (.slice pxa nv kxa):=by go_simp
         have b1:(wr.alloc (.cells #[.slice pxa nv kxa,.slice pxb nl kxb] 70)).cell? ⟨wr.heap.size,1,none⟩=some (.slice pxb nl kxb):=by go_simp
         obtain⟨w8,hw8⟩ : ∃z,z=(wr.alloc (.cells #[.slice pxa nv kxa,.slice pxb nl kxb] 70)).drew:=⟨_,rfl⟩
         replace xn:Ext wr w8:=by rw [hw8];exact xn.drew
         replace b0:w8.cell? ⟨wr.heap.size,0,none⟩=some (.slice pxa nv kxa):=by rw [hw8];exact b0
         replace b1:w8.cell? ⟨wr.heap.size,1,none⟩=some (.slice pxb nl kxb):=by rw [hw8];exact b1
         rw [←hw8]
         have X8:=Lib.hid xn
         have HZW:=Lib.hid (show B2≤wr.heap.size from by rw [HB2.out];exact HCH.out.size)
         clear hw8 xn c0 c1 e0
         obtain⟨rs,HRS,HOW⟩ : ∃rs:List (List Row),Hid (rs.length=0∧rs.length≤1001∧rs = [])∧Hid (OwnOf (Rep.slice Rep.row) w8 (fun _=>True) B 52 (.slice none 0 0) rs):=⟨[],⟨rfl,by simp,rfl⟩,OwnOf.nil _ _ _ _ _⟩
         have HCVR:=HCV1
         have HVL:=Lib.hid (show ∀b,Value.ownBlock (.slice none 0 0)=some b→b<wr.heap.size from fun b hb=>by cases hb)
         have HST9:=Lib.hid (show gRuns K (M.take (k+1))=rs ++ [[] ++ [⟨xv,xl⟩]]from by rw [HRS.out.2.2];exact HST9.out)
         have B1:rs.length+1≤1048577:=by have h2:=HRS.out.2.1;omega
         have HBW:=Lib.hid (show B≤w8.heap.size∧B2≤w8.heap.size∧wr.heap.size<w8.heap.size from ⟨by have h1:=HBB.out;have h2:=HZW.out;have h3:=X8.out.size;omega,by have h2:=HZW.out;have h3:=X8.out.size;omega,cell_lt b0⟩)
         go_wp2_with (at_builtin;go_loud (refine wpList_append_grp rfl _ _ 140 rfl S B B2 52 70 i2 _ Tryz.underlying140 hi2 hz20 hz21 hz22 rfl (.slice none 0 0) rs rfl (HOW.out.ext ((Ext.refl _).alloc _)) (by exact fun b hb hs=>(HCVR.out b hb).elim (fun hc=>HSC.out.2.2.2.1 b hc hs) (fun hb2=>HSC.out.2.2.1 b hb2 hs)) (by exact HSC.out.2.1) ?c2 ⟨_,0,none⟩ 1 rfl ?c1 B1 ?c3 (0) HRS.out.1 ?_))
         case c1=>exact cells_new _ [.slice none 0 0] _ 0 _ rfl
         case c2=>have:=HBW.out;simp;omega
         case c3=>have:=HBW.out;simp;omega
         intro g6 cap6 w6 hr6 gr6 at6
         have hvs : ∀b,S b→ ¬Value.ownBlock (.slice none 0 0)=some b:=fun b hs hb=>(HCVR.out b hb).elim (fun hc=>HSC.out.2.2.2.1 b hc hs) (fun hb2=>HSC.out.2.2.1 b hb2 hs)
         have CH6:=Lib.hid (show Chg C w2 w6 from ((HCH.out.ext X8.out).alloc _).grown gr6 (fun b hb=>by rw [←HB2.out];exact HCVR.out b hb))
         have G06:=Lib.hid (show SliceOf Rep.val (on w6 S) (.slice pxa nv kxa) xv from (G0.out.ext ((X8.out.alloc _).sub _)).chg (chg_grown gr6) hvs)
         have G16:=Lib.hid (show SliceOf Rep.int (on w6 S) (.slice pxb nl kxb) xl from (G1.out.ext ((X8.out.alloc _).sub _)).chg (chg_grown gr6) hvs)
         have HCVG:=Lib.hid (show C g6∨B2≤g6 from at6.elim (fun h=>HCVR.out g6 h) (fun h=> .inr (by rw [h];have:=HBW.out.2.1;simp;omega)))
         have hne6 : ∀b,Value.ownBlock (.slice none 0 0)=some b→b≠wr.heap.size:=fun b hb e=>by have:=HVL.out b hb;omega
         replace b0:=cell_grown gr6 (((Ext.refl w8).alloc _).at b0) hne6
         replace b1:=cell_grown gr6 (((Ext.refl w8).alloc _).at b1) hne6
         have HZ6:=Lib.hid (show B2≤w6.heap.size from by have h1:=gr6.size;have h2:=HBW.out.2.1;simp at h1;omega)
         have HR6:=Lib.hid hr6
         obtain⟨hq1,hgl6,hu,hfz,hne,hcb⟩:=hr6.lit2 HRS.out.1
         have HNE:=Lib.hid hne
         have hwm6:IntKind.i64.wrap (-1+1)=0:=by decide
         have b6:=cell_lt b0
         clear B1 hr6 gr6 at6 hvs hne6 hq1 hne hcb X8 HCVR HOW
         have WZ:World:=(w6.alloc (.cells #[.slice pxa nv kxa,.slice pxb nl kxb] 70)).drew
         have hzx:Ext w6 (w6.alloc (.cells #[.slice pxa nv kxa,.slice pxb nl kxb] 70)).drew:=((Ext.refl _).alloc _).drew
         have hsv:Sub (on w6 S) (on (w6.alloc (.cells #[.slice pxa nv kxa,.slice pxb nl kxb] 70)).drew (avoid S (.slice none 0 0))):=fun p x e=>by
          obtain⟨e1,e2⟩:=on_some.1 e
          exact on_some.2 ⟨⟨fun e3=>HSC.out.2.2.1 _ (HR6.out.lit.2.2.2.2.2 _ e3.symm).1 e1,e1⟩,hzx.at e2⟩
         have GZ0:=Lib.hid (G06.out.ext hsv)
         have GZ1:=Lib.hid (G16.out.ext hsv)
         have OZ:=Lib.hid (HR6.out.cur.ext hzx)
         have HZZ:=Lib.hid (show B2≤(w6.alloc (.cells #[.slice pxa nv kxa,.slice pxb nl kxb] 70)).drew.heap.size from Nat.le_trans HZ6.out hzx.size)
         have B3:([]:List Row).length+1≤maxLen:=by skip;unfold maxLen;first | omega | (simp;done) | (simp;omega)
         have B4:(([]:List Row).length+1)*48≤140737488355328:=by skip;first | omega | (simp;done) | (simp;omega)
         clear WZ hzx hsv
         go_wp2_with fail
         go_region_law (first | (refine step_append_one Rep.row S rfl _ _ 52 rfl B2 70 i0 _ 48 Tryz.underlying52 hi hz0 hz1 hz2 rfl (by decide) (.slice none 0 0) ([]:List Row) rfl OZ.out ⟨_,0,none⟩ 1 ⟨xv,xl⟩ [.slice pxa nv kxa,.slice pxb nl kxb] rfl ⟨_,_,rfl,GZ0.out,GZ1.out⟩ (by exact cells_new _ [.slice pxa nv kxa,.slice pxb nl kxb] _) B3 B4 HZZ.out ?_;intro g3 cap3 w9 own9 gr9 at9;obtain⟨k1,k2⟩:=grown_cell gr9 (((Ext.refl w6).alloc _).drew.at hu) (((Ext.refl w6).alloc _).drew.unfrozen hu hfz) HNE.out))
         all_goals
          have hr9:=(HR6.out.ext ((Ext.refl w6).alloc _).drew).push2 HRS.out.1 own9 gr9 (at9.elim (fun h=> .inl h.symm) fun h=> .inr (by rw [h];rfl))
          have hc9:Chg C w2 (w9.setCell ⟨g6,0,none⟩ (.slice (some ⟨g3,0,none⟩) (([]:List Row).length+1) cap3)):=((CH6.out.alloc _).drew.grown gr9 (fun b hb=> .inr (by rw [←HB2.out];exact(HR6.out.lit.2.2.2.2.2 b hb).1))).setCell (p:=⟨g6,0,none⟩) (by rw [←HB2.out];exact HCVG.out) _
          have H9:=Lib.hid hr9
          have C9:=Lib.hid hc9
          clear k1 k2 hr9 hc9 hu hfz own9 gr9 at9 b0 b1
          go_wp2_with fail
          go_roundg (N - (k+1))
          case measure=>omega
          case rel=>exact⟨k+1,_,by omega,rfl,by go_num,rfl,.inr ⟨_,_,_,HST9.out,H9.out⟩,(fun b hb=>by have e:g6=b:=Option.some.inj hb;rw [←e];exact HCVG.out),C9.out⟩
        ·obtain⟨⟨g,cap,rfl⟩,pu,cu,rfl⟩:=h2.form
         have hgl0:=h2.lit.2.1
         obtain⟨nc,hnc⟩ : ∃z,z=cur.length:=⟨_,rfl⟩
         rw [←hnc]at h2
         have HNC:=Lib.hid hnc
         have HG2:=Lib.hid h2
         have HGLN:=Lib.hid (show done.length+1≤1001∧cur.length≤1000 from by
          rw [h1,List.length_append]at hgl
          have h5:=le_sumL (show cur∈done ++ [cur]by simp)
          simp only [List.length_cons,List.length_nil]at hgl
          omega)
         have hwn:IntKind.i64.wrap (done.length:Int)=(done.length:Int):=by have:=HGLN.out;rw [IntKind.wrap_i64];omega
         have hd15:decide ((done.length:Int)<0)=false:=by simp
         have hin:(0:Int)≤(done.length:Int):=by omega
         have hin2:(done.length:Int)<(done.length:Int)+1:=by omega
         have hgc:=fun r (hr:r∈cur)=>hgm cur (by rw [h1];simp) r hr
         have HSTN:=Lib.hid (fun(h:gNew K cur ⟨xv,xl⟩=true)=>(by rw [HST.out,h1,gStep_new K done cur _ h];rfl:gRuns K (M.take (k+1))=(done ++ [cur]) ++ [[] ++ [⟨xv,xl⟩]]))
         have HSTO:=Lib.hid (fun(h:gNew K cur ⟨xv,xl⟩=false)=>(by rw [HST.out,h1,gStep_old K done cur _ h]:gRuns K (M.take (k+1))=done ++ [cur ++ [⟨xv,xl⟩]]))
         obtain⟨hq1,hq2,hu,hfz,hne,hcb⟩:=h2.lit
         clear h1 h2 hgl hgm hq1 hq2 hfz hne hcb
         by_cases hce:cur = []
         ·have hnc0:nc=0:=by rw [hnc,hce];rfl
          have HST9:=Lib.hid (HSTO.out (by unfold gNew;rw [hce];rfl))
          clear hgc hce hnc
          subst hnc0
          go_wp2_with fail
          go_big_region_o
          have xn:=(Ext.refl wr).alloc (.cells #[.slice pxa nv kxa,.slice pxb nl kxb] 70)
          have b0:(wr.alloc (.cells #[.slice pxa nv kxa,.slice pxb nl kxb] 70)).cell? ⟨wr.heap.size,0,none⟩=some (.slice pxa nv kxa):=by go_simp
          have b1:(wr.alloc (.cells #[.slice pxa nv kxa,.slice pxb nl kxb] 70)).cell? ⟨wr.heap.size,1,none⟩=some (.slice pxb nl kxb):=by go_simp
          obtain⟨w8,hw8⟩ : ∃z,z=(wr.alloc (.cells #[.slice pxa nv kxa,.slice pxb nl kxb] 70)).drew:=⟨_,rfl⟩
          replace xn:Ext wr w8:=by rw [hw8];exact xn.drew
          replace b0:w8.cell? ⟨wr.heap.size,0,none⟩=some (.slice pxa nv kxa):=by rw [hw8];exact b0
          replace b1:w8.cell? ⟨wr.heap.size,1,none⟩=some (.slice pxb nl kxb):=by rw [hw8];exact b1
          rw [←hw8]
          have X8:=Lib.hid xn
          have HZW:=Lib.hid (show B2≤wr.heap.size from by rw [HB2.out];exact HCH.out.size)
          clear hw8 xn c0 c1 e0
          have HZ6:=Lib.hid (show B2≤w8.heap.size from by have h2:=HZW.out;have h3:=X8.out.size;omega)
          have HR6:=Lib.hid (HG2.out.ext X8.out)
          have G06:=Lib.hid (G0.out.ext (X8.out.sub _))
          have G16:=Lib.hid (G1.out.ext (X8.out.sub _))
          have CH6:=Lib.hid (HCH.out.ext X8.out)
          have HCVG:=Lib.hid (HCV1.out g rfl)
          obtain⟨hq1,hgl6,hu,hfz,hne,hcb⟩:=HR6.out.lit
          have HNE:=Lib.hid hne
          have b6:=cell_lt b0
          clear hq1 hne hcb X8
          have WZ:World:=(w8.alloc (.cells #[.slice pxa nv kxa,.slice pxb nl kxb] 70)).drew
          have hzx:Ext w8 (w8.alloc (.cells #[.slice pxa nv kxa,.slice pxb nl kxb] 70)).drew:=((Ext.refl _).alloc _).drew
          have hsv:Sub (on w8 S) (on (w8.alloc (.cells #[.slice pxa nv kxa,.slice pxb nl kxb] 70)).drew (avoid S (.slice pu 0 cu))):=fun p x e=>by
           obtain⟨e1,e2⟩:=on_some.1 e
           exact on_some.2 ⟨⟨fun e3=>HSC.out.2.2.1 _ (HR6.out.lit.2.2.2.2.2 _ e3.symm).1 e1,e1⟩,hzx.at e2⟩
          have GZ0:=Lib.hid (G06.out.ext hsv)
          have GZ1:=Lib.hid (G16.out.ext hsv)
          have OZ:=Lib.hid (HR6.out.cur.ext hzx)
          have HZZ:=Lib.hid (show B2≤(w8.alloc (.cells #[.slice pxa nv kxa,.slice pxb nl kxb] 70)).drew.heap.size from Nat.le_trans HZ6.out hzx.size)
          have B3:cur.length+1≤maxLen:=by have:=HGLN.out;unfold maxLen;first | omega | (simp;done) | (simp;omega)
          have B4:(cur.length+1)*48≤140737488355328:=by have:=HGLN.out;first | omega | (simp;done) | (simp;omega)
          clear WZ hzx hsv
          go_wp2_with fail
          go_region_law (first | (refine step_append_one Rep.row S rfl _ _ 52 rfl B2 70 i0 _ 48 Tryz.underlying52 hi hz0 hz1 hz2 rfl (by decide) (.slice pu 0 cu) cur rfl OZ.out ⟨_,0,none⟩ 1 ⟨xv,xl⟩ [.slice pxa nv kxa,.slice pxb nl kxb] rfl ⟨_,_,rfl,GZ0.out,GZ1.out⟩ (by exact cells_new _ [.slice pxa nv kxa,.slice pxb nl kxb] _) B3 B4 HZZ.out ?_;intro g3 cap3 w9 own9 gr9 at9;obtain⟨k1,k2⟩:=grown_cell gr9 (((Ext.refl w8).alloc _).drew.at hu) (((Ext.refl w8).alloc _).drew.unfrozen hu hfz) HNE.out))
          all_goals
           have hr9:=(HR6.out.ext ((Ext.refl w8).alloc _).drew).push2 rfl own9 gr9 (at9.elim (fun h=> .inl h.symm) fun h=> .inr (by rw [h];rfl))
           have hc9:Chg C w2 (w9.setCell ⟨g,done.length,none⟩ (.slice (some ⟨g3,0,none⟩) (cur.length+1) cap3)):=((CH6.out.alloc _).drew.grown gr9 (fun b hb=> .inr (by rw [←HB2.out];exact(HR6.out.lit.2.2.2.2.2 b hb).1))).setCell (p:=⟨g,done.length,none⟩) (by rw [←HB2.out];exact HCVG.out) _
           have H9:=Lib.hid hr9
           have C9:=Lib.hid hc9
           clear k1 k2 hr9 hc9 hu hfz own9 gr9 at9 b0 b1
           go_wp2_with fail
           go_roundg (N - (k+1))
           case measure=>omega
           case rel=>exact⟨k+1,_,by omega,rfl,by go_num,rfl,.inr ⟨_,_,_,HST9.out,H9.out⟩,(fun b hb=>by have e:g=b:=Option.some.inj hb;rw [←e];exact HCVG.out),C9.out⟩
         ·have hcl:0<cur.length:=by
           cases cur with
           |nil=>exact absurd rfl hce
           |cons _ _=>simp
          have hcs:=HG2.out.cur.slice
          obtain⟨bu,ou,rfl⟩ : ∃b o,pu=some ⟨b,o,none⟩:=by
           obtain⟨a,c,h1,_,_,h2⟩:=hcs.form
           injection h1 with h1
           rw [h1]
           exact h2 (by decide) hcl
          obtain⟨ha,hb,d0,_,e0',_⟩:=row_at hcs 0 hcl
          obtain⟨ph,kh,rfl,hkh,_⟩:=e0'.form
          simp only [Nat.zero_mul,Nat.add_zero]at d0
          have hh:=(hgc _ (List.getElem_mem hcl)).1
          have hgn:gNew K cur ⟨xv,xl⟩=(cmpVals (cur[0].vals.take K) (xv.take K) != 0):=by
           unfold gNew
           cases cur with
           |nil=>exact absurd rfl hce
           |cons c cs=>simp
          have HG0H:=Lib.hid (e0'.pre K hh)
          have HG0X:=Lib.hid (show SliceOf Rep.val wr.cell? (.slice pxa K kxa) (xv.take K)from (G0.out.ext (on_sub _ _)).pre K (by rw [←HNV.out];exact hKn))
          obtain⟨q,hq⟩ : ∃z,z=cmpVals (cur[0].vals.take K) (xv.take K):=⟨_,rfl⟩
          rw [←hq]at hgn
          have HGN:=Lib.hid hgn
          obtain⟨cv,hcv⟩ : ∃z,z=cur[0].vals.take K:=⟨_,rfl⟩
          rw [←hcv]at HG0H hq
          have HQ:=Lib.hid hq
          have hKh:K≤kh:=Nat.le_trans hh hkh
          have hKx:K≤kxa:=by have:=HKX.out;omega
          obtain⟨nh,hnh⟩ : ∃z,z=cur[0].vals.length:=⟨_,rfl⟩
          rw [←hnh]at d0
          rw [←hnc]at hcl
          have hgt:decide ((0:Int)<(nc:Int))=true:=by simp;omega
          have hgt2:decide (0<nc)=true:=by simp;omega
          have hgi:(0:Int)<(nc:Int):=by omega
          have eu:=cell_lt d0
          clear hgc hce hnc hcs e0' hgn hcv hq hh hkh hnh
          go_wp2_with fail
          have xn:=(Ext.refl wr).alloc (.cells #[.slice pxa nv kxa,.slice pxb nl kxb] 70)
          have b0:(wr.alloc (.cells #[.slice pxa nv kxa,.slice pxb nl kxb] 70)).cell? ⟨wr.heap.size,0,none⟩=some (.slice pxa nv kxa):=by go_simp
          have b1:(wr.alloc (.cells #[.slice pxa nv kxa,.slice pxb nl kxb] 70)).cell? ⟨wr.heap.size,1,none⟩=some (.slice pxb nl kxb):=by go_simp
          generalize (wr.alloc (.cells #[.slice pxa nv kxa,.slice pxb nl kxb] 70))=w8 at xn b0 b1 ⊢
          have hS0:Ext wr w8.drew∧w8.drew.cell? ⟨wr.heap.size,0,none⟩=some (.slice pxa nv kxa)∧w8.drew.cell? ⟨wr.heap.size,1,none⟩=some (.slice pxb nl kxb)∧w8.drew.cell? ⟨g,done.length,none⟩=some (.slice (some ⟨bu,ou,none⟩) nc cu)∧w8.drew.cell? ⟨bu,ou,none⟩=some (.slice ph nh kh):=⟨xn.drew,b0,b1,xn.at hu,xn.at d0⟩
          clear xn b0 b1 hu d0 c0 c1
          go_region_held3 (fun w'=>Ext wr w'∧w'.cell? ⟨wr.heap.size,0,none⟩=some (.slice pxa nv kxa)∧w'.cell? ⟨wr.heap.size,1,none⟩=some (.slice pxb nl kxb)∧w'.cell? ⟨g,done.length,none⟩=some (.slice (some ⟨bu,ou,none⟩) nc cu)∧w'.cell? ⟨bu,ou,none⟩=some (.slice ph nh kh))
           (first |with_reducible assumption | with_reducible exact keepE4 (by assumption) x4)
           (first |(go_at_call 100;refine(ref_compareRows _ _ cv (xv.take K) _ (by exact HG0H.out.ext (And.left ‹Ext wr _∧_›).full) (by exact HG0X.out.ext (And.left ‹Ext wr _∧_›).full)).mono ?_;rintro e w4 ⟨rfl,y4⟩;have x4:=y4.ext;rw [←HQ.out]) | fail)
          clear hS0
          obtain⟨xf,b0,b1,_,_⟩:= ‹Ext wr _∧_›
          obtain⟨w8,rfl⟩ : ∃z,z=w4:=⟨w4,rfl⟩
          have X8:=Lib.hid xf
          have HZW:=Lib.hid (show B2≤wr.heap.size from by rw [HB2.out];exact HCH.out.size)
          clear xf
          by_cases hq0:q=0
          ·have hqb:(q==0)=true:=by simp [hq0]
           have hqn:(q != 0)=false:=by simp [hq0]
           have HST9:=Lib.hid (HSTO.out (by rw [HGN.out];exact hqn))
           clear hq0
           have HZ6:=Lib.hid (show B2≤w8.heap.size from by have h2:=HZW.out;have h3:=X8.out.size;omega)
           have HR6:=Lib.hid (HG2.out.ext X8.out)
           have G06:=Lib.hid (G0.out.ext (X8.out.sub _))
           have G16:=Lib.hid (G1.out.ext (X8.out.sub _))
           have CH6:=Lib.hid (HCH.out.ext X8.out)
           have HCVG:=Lib.hid (HCV1.out g rfl)
           obtain⟨hq1,hgl6,hu,hfz,hne,hcb⟩:=HR6.out.lit
           have HNE:=Lib.hid hne
           have b6:=cell_lt b0
           clear hq1 hne hcb X8
           have WZ:World:=(w8.alloc (.cells #[.slice pxa nv kxa,.slice pxb nl kxb] 70)).drew
           have hzx:Ext w8 (w8.alloc (.cells #[.slice pxa nv kxa,.slice pxb nl kxb] 70)).drew:=((Ext.refl _).alloc _).drew
           have hsv:Sub (on w8 S) (on (w8.alloc (.cells #[.slice pxa nv kxa,.slice pxb nl kxb] 70)).drew (avoid S (.slice (some ⟨bu,ou,none⟩) nc cu))):=fun p x e=>by
            obtain⟨e1,e2⟩:=on_some.1 e
            exact on_some.2 ⟨⟨fun e3=>HSC.out.2.2.1 _ (HR6.out.lit.2.2.2.2.2 _ e3.symm).1 e1,e1⟩,hzx.at e2⟩
           have GZ0:=Lib.hid (G06.out.ext hsv)
           have GZ1:=Lib.hid (G16.out.ext hsv)
           have OZ:=Lib.hid (HR6.out.cur.ext hzx)
           have HZZ:=Lib.hid (show B2≤(w8.alloc (.cells #[.slice pxa nv kxa,.slice pxb nl kxb] 70)).drew.heap.size from Nat.le_trans HZ6.out hzx.size)
           have B3:cur.length+1≤maxLen:=by have:=HGLN.out;unfold maxLen;first | omega | (simp;done) | (simp;omega)
           have B4:(cur.length+1)*48≤140737488355328:=by have:=HGLN.out;first | omega | (simp;done) | (simp;omega)
           clear WZ hzx hsv
           go_wp2_with fail
           go_region_law (first | (refine step_append_one Rep.row S rfl _ _ 52 rfl B2 70 i0 _ 48 Tryz.underlying52 hi hz0 hz1 hz2 rfl (by decide) (.slice (some ⟨bu,ou,none⟩) nc cu) cur rfl OZ.out ⟨_,0,none⟩ 1 ⟨xv,xl⟩ [.slice pxa nv kxa,.slice pxb nl kxb] rfl ⟨_,_,rfl,GZ0.out,GZ1.out⟩ (by exact cells_new _ [.slice pxa nv kxa,.slice pxb nl kxb] _) B3 B4 HZZ.out ?_;intro g3 cap3 w9 own9 gr9 at9;obtain⟨k1,k2⟩:=grown_cell gr9 (((Ext.refl w8).alloc _).drew.at hu) (((Ext.refl w8).alloc _).drew.unfrozen hu hfz) HNE.out))
           all_goals
            have hr9:=(HR6.out.ext ((Ext.refl w8).alloc _).drew).push2 rfl own9 gr9 (at9.elim (fun h=> .inl h.symm) fun h=> .inr (by rw [h];rfl))
            have hc9:Chg C w2 (w9.setCell ⟨g,done.length,none⟩ (.slice (some ⟨g3,0,none⟩) (cur.length+1) cap3)):=((CH6.out.alloc _).drew.grown gr9 (fun b hb=> .inr (by rw [←HB2.out];exact(HR6.out.lit.2.2.2.2.2 b hb).1))).setCell (p:=⟨g,done.length,none⟩) (by rw [←HB2.out];exact HCVG.out) _
            have H9:=Lib.hid hr9
            have C9:=Lib.hid hc9
            clear k1 k2 hr9 hc9 hu hfz own9 gr9 at9 b0 b1
            go_wp2_with fail
            go_roundg (N - (k+1))
            case measure=>omega
            case rel=>exact⟨k+1,_,by omega,rfl,by go_num,rfl,.inr ⟨_,_,_,HST9.out,H9.out⟩,(fun b hb=>by have e:g=b:=Option.some.inj hb;rw [←e];exact HCVG.out),C9.out⟩
          ·have hqb:(q==0)=false:=by simp [hq0]
           have hqn:(q != 0)=true:=by simp [hq0]
           have HST0:=Lib.hid (HSTN.out (by rw [HGN.out];exact hqn))
           obtain⟨rs,hrs⟩ : ∃z,z=done ++ [cur]:=⟨_,rfl⟩
           have HRS:=Lib.hid (show rs.length=done.length+1∧rs.length≤1001∧rs=done ++ [cur]from ⟨by rw [hrs];simp,by have:=HGLN.out;rw [hrs,List.length_append];simp only [List.length_cons,List.length_nil];omega,hrs⟩)
           have HOW:=Lib.hid (show OwnOf (Rep.slice Rep.row) w8 (fun _=>True) B 52 (.slice (some ⟨g,0,none⟩) (done.length+1) cap) rs from by rw [hrs];exact HG2.out.whole.ext X8.out)
           have HCVR:=HCV1
           have HVL:=Lib.hid (show ∀b,Value.ownBlock (.slice (some ⟨g,0,none⟩) (done.length+1) cap)=some b→b<wr.heap.size from fun b hb=>by have e:g=b:=Option.some.inj hb;omega)
           have HST9:=Lib.hid (show gRuns K (M.take (k+1))=rs ++ [[] ++ [⟨xv,xl⟩]]from by rw [hrs];exact HST0.out)
           clear hq0 hrs
           have B1:rs.length+1≤1048577:=by have h2:=HRS.out.2.1;omega
           have HBW:=Lib.hid (show B≤w8.heap.size∧B2≤w8.heap.size∧wr.heap.size<w8.heap.size from ⟨by have h1:=HBB.out;have h2:=HZW.out;have h3:=X8.out.size;omega,by have h2:=HZW.out;have h3:=X8.out.size;omega,cell_lt b0⟩)
           go_wp2_with (at_builtin;go_loud (refine wpList_append_grp rfl _ _ 140 rfl S B B2 52 70 i2 _ Tryz.underlying140 hi2 hz20 hz21 hz22 rfl (.slice (some ⟨g,0,none⟩) (done.length+1) cap) rs rfl (HOW.out.ext ((Ext.refl _).alloc _)) (by exact fun b hb hs=>(HCVR.out b hb).elim (fun hc=>HSC.out.2.2.2.1 b hc hs) (fun hb2=>HSC.out.2.2.1 b hb2 hs)) (by exact HSC.out.2.1) ?c2 ⟨_,0,none⟩ 1 rfl ?c1 B1 ?c3 ((done.length+1)) HRS.out.1 ?_))
           case c1=>exact cells_new _ [.slice none 0 0] _ 0 _ rfl
           case c2=>have:=HBW.out;simp;omega
           case c3=>have:=HBW.out;simp;omega
           intro g6 cap6 w6 hr6 gr6 at6
           have hvs : ∀b,S b→ ¬Value.ownBlock (.slice (some ⟨g,0,none⟩) (done.length+1) cap)=some b:=fun b hs hb=>(HCVR.out b hb).elim (fun hc=>HSC.out.2.2.2.1 b hc hs) (fun hb2=>HSC.out.2.2.1 b hb2 hs)
           have CH6:=Lib.hid (show Chg C w2 w6 from ((HCH.out.ext X8.out).alloc _).grown gr6 (fun b hb=>by rw [←HB2.out];exact HCVR.out b hb))
           have G06:=Lib.hid (show SliceOf Rep.val (on w6 S) (.slice pxa nv kxa) xv from (G0.out.ext ((X8.out.alloc _).sub _)).chg (chg_grown gr6) hvs)
           have G16:=Lib.hid (show SliceOf Rep.int (on w6 S) (.slice pxb nl kxb) xl from (G1.out.ext ((X8.out.alloc _).sub _)).chg (chg_grown gr6) hvs)
           have HCVG:=Lib.hid (show C g6∨B2≤g6 from at6.elim (fun h=>HCVR.out g6 h) (fun h=> .inr (by rw [h];have:=HBW.out.2.1;simp;omega)))
           have hne6 : ∀b,Value.ownBlock (.slice (some ⟨g,0,none⟩) (done.length+1) cap)=some b→b≠wr.heap.size:=fun b hb e=>by have:=HVL.out b hb;omega
           replace b0:=cell_grown gr6 (((Ext.refl w8).alloc _).at b0) hne6
           replace b1:=cell_grown gr6 (((Ext.refl w8).alloc _).at b1) hne6
           have HZ6:=Lib.hid (show B2≤w6.heap.size from by have h1:=gr6.size;have h2:=HBW.out.2.1;simp at h1;omega)
           have HR6:=Lib.hid hr6
           obtain⟨hq1,hgl6,hu,hfz,hne,hcb⟩:=hr6.lit2 HRS.out.1
           have HNE:=Lib.hid hne
           have hwn6:IntKind.i64.wrap ((done.length:Int)+1)=(done.length:Int)+1:=by have:=HGLN.out;rw [IntKind.wrap_i64];omega
           have hin6:(0:Int)≤(done.length:Int)+1:=by omega
           have hin7:(done.length:Int)+1<(done.length:Int)+1+1:=by omega
           have b6:=cell_lt b0
           clear B1 hr6 gr6 at6 hvs hne6 hq1 hne hcb X8 HCVR HOW
           have WZ:World:=(w6.alloc (.cells #[.slice pxa nv kxa,.slice pxb nl kxb] 70)).drew
           have hzx:Ext w6 (w6.alloc (.cells #[.slice pxa nv kxa,.slice pxb nl kxb] 70)).drew:=((Ext.refl _).alloc _).drew
           have hsv:Sub (on w6 S) (on (w6.alloc (.cells #[.slice pxa nv kxa,.slice pxb nl kxb] 70)).drew (avoid S (.slice none 0 0))):=fun p x e=>by
            obtain⟨e1,e2⟩:=on_some.1 e
            exact on_some.2 ⟨⟨fun e3=>HSC.out.2.2.1 _ (HR6.out.lit.2.2.2.2.2 _ e3.symm).1 e1,e1⟩,hzx.at e2⟩
           have GZ0:=Lib.hid (G06.out.ext hsv)
           have GZ1:=Lib.hid (G16.out.ext hsv)
           have OZ:=Lib.hid (HR6.out.cur.ext hzx)
           have HZZ:=Lib.hid (show B2≤(w6.alloc (.cells #[.slice pxa nv kxa,.slice pxb nl kxb] 70)).drew.heap.size from Nat.le_trans HZ6.out hzx.size)
           have B3:([]:List Row).length+1≤maxLen:=by skip;unfold maxLen;first | omega | (simp;done) | (simp;omega)
           have B4:(([]:List Row).length+1)*48≤140737488355328:=by skip;first | omega | (simp;done) | (simp;omega)
           clear WZ hzx hsv
           go_wp2_with fail
           go_region_law (first | (refine step_append_one Rep.row S rfl _ _ 52 rfl B2 70 i0 _ 48 Tryz.underlying52 hi hz0 hz1 hz2 rfl (by decide) (.slice none 0 0) ([]:List Row) rfl OZ.out ⟨_,0,none⟩ 1 ⟨xv,xl⟩ [.slice pxa nv kxa,.slice pxb nl kxb] rfl ⟨_,_,rfl,GZ0.out,GZ1.out⟩ (by exact cells_new _ [.slice pxa nv kxa,.slice pxb nl kxb] _) B3 B4 HZZ.out ?_;intro g3 cap3 w9 own9 gr9 at9;obtain⟨k1,k2⟩:=grown_cell gr9 (((Ext.refl w6).alloc _).drew.at hu) (((Ext.refl w6).alloc _).drew.unfrozen hu hfz) HNE.out))
           all_goals
            have hr9:=(HR6.out.ext ((Ext.refl w6).alloc _).drew).push2 HRS.out.1 own9 gr9 (at9.elim (fun h=> .inl h.symm) fun h=> .inr (by rw [h];rfl))
            have hc9:Chg C w2 (w9.setCell ⟨g6,(done.length+1),none⟩ (.slice (some ⟨g3,0,none⟩) (([]:List Row).length+1) cap3)):=((CH6.out.alloc _).drew.grown gr9 (fun b hb=> .inr (by rw [←HB2.out];exact(HR6.out.lit.2.2.2.2.2 b hb).1))).setCell (p:=⟨g6,(done.length+1),none⟩) (by rw [←HB2.out];exact HCVG.out) _
            have H9:=Lib.hid hr9
            have C9:=Lib.hid hc9
            clear k1 k2 hr9 hc9 hu hfz own9 gr9 at9 b0 b1
            go_wp2_with fail
            go_roundg (N - (k+1))
            case measure=>omega
            case rel=>exact⟨k+1,_,by omega,rfl,by go_num,rfl,.inr ⟨_,_,_,HST9.out,H9.out⟩,(fun b hb=>by have e:g6=b:=Option.some.inj hb;rw [←e];exact HCVG.out),C9.out⟩
      · have hkN:k=N:=by omega
        have hd : ¬(k:Int)<(N:Int):=by omega
        have hall:M.take k=M:=by rw [hkN,←HML.out,List.take_length]
        have hgl:=gRuns_len K M
        have hgm:=gRuns_mem K (fun r=>K≤r.vals.length∧r.vals.length≤2000∧r.lin.length≤1000) M HSK.out
        obtain⟨GS,hGS⟩ : ∃z,z=gRuns K M:=⟨_,rfl⟩
        rw [hall,←hGS]at HST1
        rw [←hGS]at hgl hgm
        have HGS:=Lib.hid (show groupR es keys aggs rows=GS.map (gRow1 es K aggs)from by rw [hGS];exact HGR.out)
        have hog:OwnOf (Rep.slice Rep.row) wr (fun _=>True) B 52 uo GS:=by
         rcases HST1.out with ⟨h1,h2,_⟩ | ⟨u,done,cur,h1,h2⟩
         ·rw [h1,h2];exact OwnOf.nil _ _ _ _ _
         ·rw [h1];exact h2.whole
        have XW:=Lib.hid (show Ext w wr from HCH.out.below HW2.out (fun b hb=>HSC.out.2.2.2.2 b hb))
        obtain⟨pg,cg,hug,-,-,hpg⟩:=hog.slice.form
        subst hug
        obtain⟨NG,hNG⟩ : ∃z,z=GS.length:=⟨_,rfl⟩
        rw [←hNG]at hog hpg ⊢
        have GSL:=Lib.hid hog.slice
        have HNG:=Lib.hid hNG
        have HPG2:=Lib.hid hpg
        have hNGl:NG≤1001:=by have:=HML.out;omega
        have HGF:=Lib.hid (show ∀g∈GS,g.length≤1000∧ ∀r∈g,K≤r.vals.length∧r.vals.length≤2000∧r.lin.length≤1000 from fun g hg=>⟨by have h1:=le_sumL hg;have h2:=HML.out;omega,hgm g hg⟩)
        clear hkN hall hgl hgm hGS hog hpg hNG HST1 HCV1 HCH hlt hk HGR
        obtain⟨wb,rfl⟩ : ∃z,z=wr:=⟨wr,rfl⟩
        go_wp2_with fail
        go_loopg [12,109] NG (fun gj vo vi wr=> ∃(j:Nat) (u:Value),j≤NG∧gj=NG - j∧vi = .int .i64 j∧u=vo∧Hid (OwnOf Rep.row wr (since wb) wb.heap.size 70 u ((GS.take j).map (gRow1 es K aggs)))∧Hid (Ext wb wr))
        case atStart=>exact⟨0,_,by omega,rfl,rfl,rfl,OwnOf.nil _ _ _ _ _,Ext.refl wb⟩
        case round =>
         obtain⟨j,uo,hj,rfl,rfl,rfl,OW,X⟩:=hrel
         obtain⟨wA,rfl⟩ : ∃z,z=wr:=⟨wr,rfl⟩
         by_cases hltj:j<NG
         ·have hjl:j<GS.length:=by have:=HNG.out;omega
          have hdj:decide ((j:Int)<(NG:Int))=true:=by simp;omega
          obtain⟨bg,og,rfl⟩:=HPG2.out (by decide) (by omega)
          have hgsl:=GSL.out
          obtain⟨vg,cg0,gg⟩:=rows_at hgsl j hjl
          obtain⟨pq,kq,hvq,-,-,hpq⟩:=gg.form
          subst hvq
          replace cg0:=X.out.at cg0
          have hst:(GS.take (j+1)).map (gRow1 es K aggs)=(GS.take j).map (gRow1 es K aggs) ++ [gRow1 es K aggs GS[j]]:=by rw [List.take_succ_eq_append_getElem hjl,List.map_append];rfl
          have hgf:=HGF.out GS[j] (List.getElem_mem hjl)
          generalize GS[j]=g at cg0 gg hpq hst hgf
          obtain⟨o,ho⟩ : ∃z,z=(GS.take j).map (gRow1 es K aggs):=⟨_,rfl⟩
          have hol:o.length≤1001:=by rw [ho,List.length_map,List.length_take];omega
          rw [←ho]at OW hst
          obtain⟨ng,hng⟩ : ∃z,z=g.length:=⟨_,rfl⟩
          rw [←hng]at cg0 gg hpq hgf
          have HST3:=Lib.hid hst
          have GG:=Lib.hid gg
          have HPQ:=Lib.hid hpq
          have HNGG:=Lib.hid hng
          have HGF1:=Lib.hid hgf
          have hngl:ng≤1000:=hgf.1
          obtain⟨hv,hhv⟩ : ∃z,z=(g.headD ⟨[],[]⟩).vals.take K:=⟨_,rfl⟩
          have HHV:=Lib.hid hhv
          obtain⟨nv,hnv⟩ : ∃z,z=hv.length:=⟨_,rfl⟩
          have hnvK:nv≤K:=by rw [hnv,hhv,List.length_take];omega
          have HNV:=Lib.hid hnv
          obtain⟨pu,cu,hu,-⟩:=OW.out.slice.form
          subst hu
          obtain⟨no,hno⟩ : ∃z,z=o.length:=⟨_,rfl⟩
          rw [←hno]at OW ⊢
          have HNO:=Lib.hid hno
          have hno1:no≤1001:=by omega
          obtain⟨E,hE⟩ : ∃z,z=wA.heap.size:=⟨_,rfl⟩
          have HEE:=Lib.hid hE
          have HUL:=Lib.hid (show ∀b,(Value.slice pu no cu).ownBlock=some b→wb.heap.size≤b∧b<E from fun b hb=>by rw [hE];exact OW.out.lt b hb)
          have HWE:=Lib.hid (show wb.heap.size≤E from by rw [hE];exact X.out.size)
          have e0:=cell_lt cg0
          clear hgsl gg hpq hst hgf ho hng hhv hno hnv hol hjl
          go_upto_if 115 with fail
          rw [←hE]
          have HB0:=Lib.hid (show Bx2 (wA.alloc (.cells #[.slice none 0 0,.slice none 0 0] 70)) E (.slice none 0 0) (.slice none 0 0)from by rw [hE];exact Bx2.new _ _ _ _)
          have HX0:=Lib.hid (show Ext wA (wA.alloc (.cells #[.slice none 0 0,.slice none 0 0] 70))from (Ext.refl wA).alloc _)
          have HZ0:=Lib.hid (show (wA.alloc (.cells #[.slice none 0 0,.slice none 0 0] 70)).heap.size=E+1 from by rw [hE];simp)
          generalize (wA.alloc (.cells #[.slice none 0 0,.slice none 0 0] 70))=wa at HB0 HX0 HZ0 ⊢
          clear hE cg0 e0
          go_cut [] (fun wx=> ∃(pv:Option Addr) (cv:Nat),Hid (Bx2 wx E (.slice pv nv cv) (.slice none 0 0))∧Hid (OwnOf Rep.val wx (fun _=>True) (E+1) 73 (.slice pv nv cv) hv)∧Hid (Ext wA wx))
          case first =>
           by_cases hg0:ng=0
           ·have hge:g = []:=List.eq_nil_of_length_eq_zero (by have:=HNGG.out;omega)
            have hve:hv = []:=by rw [HHV.out,hge];simp
            have hn0:0=nv:=by rw [HNV.out,hve];rfl
            clear hge
            subst hn0 hg0
            go_wp2_with fail
            go_meet
            exact⟨none,0,HB0.out,by rw [hve];exact OwnOf.nil _ _ _ _ _,HX0.out⟩
           ·have hgd:decide ((0:Int)<(ng:Int))=true:=by simp;omega
            have hgd2:decide (0<ng)=true:=by simp;omega
            have hgd3:0<ng:=by omega
            have hgi:(0:Int)<(ng:Int):=by omega
            have hg1:0<g.length:=by have:=HNGG.out;omega
            obtain⟨bq,oq,rfl⟩:=HPQ.out (by decide) (by omega)
            have hgv:=GG.out
            obtain⟨ha,hb,d0,_,e0',_⟩:=row_at hgv 0 hg1
            obtain⟨ph,kh,hva,hkh,-⟩:=e0'.form
            subst hva
            simp only [Nat.zero_mul,Nat.add_zero]at d0
            have hh:=(HGF1.out.2 g[0] (List.getElem_mem hg1)).1
            have hve:hv=g[0].vals.take K:=by
             rw [HHV.out]
             cases g with
             |nil=>simp at hg1
             |cons c cs=>rfl
            have HG0:=Lib.hid (show SliceOf Rep.val wb.cell? (.slice ph K kh) hv from by rw [hve];exact e0'.pre K hh)
            have HKN:=Lib.hid (show K=nv from by rw [HNV.out,hve,List.length_take];omega)
            obtain⟨nh,hnh⟩ : ∃z,z=g[0].vals.length:=⟨_,rfl⟩
            have hKh:K≤kh:=Nat.le_trans hh hkh
            rw [←hnh]at d0
            replace d0:=(X.out.trans HX0.out).at d0
            have A1:([]:List Val).length+hv.length≤maxLen:=by have:=HNV.out;rw [←this];unfold maxLen;simp;omega
            have A2:(([]:List Val).length+hv.length)*32≤140737488355328:=by have:=HNV.out;rw [←this];simp;omega
            have HSA:=Lib.hid (show ∀W',Ext wb W'→SliceOf Rep.val (on W' (avoid (fun _=>True) (.slice none 0 0))) (.slice ph K kh) hv from fun W' hW=>HG0.out.ext ((full_on wb (fun _=>True) fun _ _=>trivial).trans ((hW.sub _).trans (on_mono _ fun b _ _=>⟨(fun e=>by cases e),trivial⟩))))
            have XD:=Lib.hid ((X.out.trans HX0.out).drew)
            have BD:=Lib.hid (HB0.out.ext ((Ext.refl wa).drew))
            have ZD:=Lib.hid (show E+1≤wa.drew.heap.size from Nat.le_of_eq HZ0.out.symm)
            have b0:=HB0.out.c0
            have ed:=cell_lt d0
            have eb:=cell_lt b0
            clear hg0 hgv e0' hh hve hnh hkh
            go_wp2_with fail
            go_region_law (first | ((with_reducible refine key_op 125 ?_);(try simp only [Act.put,List.getElem_toArray,List.getElem_cons_zero,List.getElem_cons_succ,List.setIfInBounds_toArray,List.set_cons_zero,List.set_cons_succ]);refine step_append_all Rep.val (fun _=>True) rfl _ _ 68 rfl (E+1) 73 i1 _ 32 Tryz.underlying68 hi1 hz10 hz11 hz12 rfl (by decide) (.slice none 0 0) ([]:List Val) rfl (OwnOf.nil _ _ _ _ _) (.slice ph K kh) hv rfl (HSA.out _ XD.out) A1 A2 ZD.out ?_;intro v8 w8 own8 gr8 hg8;obtain⟨p8,c8,hv8,-⟩:=own8.slice.form;subst hv8;have B8:=Lib.hid (BD.out.grown gr8 (fun k hk=>by cases hk));have m8:=B8.out.c0;have f8:=B8.out.f0))
            all_goals
             have X8:=Lib.hid (show Ext wA w8 from ext_grown (HX0.out.drew) gr8 (fun k hk=>by cases hk))
             rw [List.nil_append,←HNV.out]at own8
             try simp only [List.nil_append]
             rw [←HNV.out]
             have O8:=Lib.hid (own8.chg flat_valC (chg_set w8 ⟨E,0,none⟩ (.slice p8 nv c8)) (fun k hk e=>by have h1:=(own8.lt k hk).1;simp only at e;omega))
             go_wp2_with fail
             go_meet
             exact⟨p8,c8,B8.out.set0 _,O8.out,Below.setCell X8.out (by rw [←HEE.out];exact Nat.le_refl _) _⟩
          case rest =>
           obtain⟨pv,cv,BX,OV,XC⟩:=hcut
           clear HB0 HX0 HZ0
           go_wp2_with fail
           go_loopg [129] ng (fun gm vi wr=> ∃(m:Nat) (pl:Option Addr) (nl cl:Nat),m≤ng∧gm=ng - m∧vi = .int .i64 m∧Hid (Bx2 wr E (.slice pv nv cv) (.slice pl nl cl))∧Hid (SliceOf Rep.int (on wr (fun b=>E<b∧(Value.slice pv nv cv).ownBlock≠some b)) (.slice pl nl cl) (gLin (g.take m)))∧Hid (OwnOf Rep.val wr (fun _=>True) (E+1) 73 (.slice pv nv cv) hv)∧Hid (Ext wA wr))
           case atStart=>exact⟨0,none,0,0,by omega,rfl,rfl,BX.out,SliceOf.nil _ _,OV.out,XC.out⟩
           case round =>
            obtain⟨m,pl,nl,cl,hm,rfl,rfl,BX4,SL4,OV4,X4⟩:=hrel
            clear BX OV XC
            by_cases hltm:m<ng
            ·have hml:m<g.length:=by have:=HNGG.out;omega
             have hdm:decide ((m:Int)<(ng:Int))=true:=by simp;omega
             obtain⟨bq,oq,rfl⟩:=HPQ.out (by decide) (by omega)
             have hgv:=GG.out
             obtain⟨ha,hb,d0,d1,e0',e1'⟩:=row_at hgv m hml
             obtain⟨ph,kh,hva,-⟩:=e0'.form
             obtain⟨pr,kr,hvb,-⟩:=e1'.form
             subst hva hvb
             replace d0:=(X.out.trans X4.out).at d0
             replace d1:=(X.out.trans X4.out).at d1
             have hlt:=gLin_take g m hml
             have hfx:=HGF1.out.2 g[m] (List.getElem_mem hml)
             have hll:=gLin_len g (fun r hr=>(HGF1.out.2 r hr).2.2) m
             generalize g[m]=r at d0 d1 e0' e1' hlt hfx
             obtain⟨rv,rl⟩:=r
             dsimp only at d0 d1 e0' e1' hlt hfx
             obtain⟨nrv,hnrv⟩ : ∃z,z=rv.length:=⟨_,rfl⟩
             obtain⟨nrl,hnrl⟩ : ∃z,z=rl.length:=⟨_,rfl⟩
             rw [←hnrv]at d0
             rw [←hnrl]at d1 e1'
             obtain⟨LL,hLL⟩ : ∃z,z=gLin (g.take m):=⟨_,rfl⟩
             rw [←hLL]at SL4 hlt hll
             have SL5:=Lib.hid (SL4.out.ext (on_sub _ _))
             have SR5:=Lib.hid (show SliceOf Rep.int wr.cell? (.slice pr nrl kr) rl from e1'.ext (X.out.trans X4.out).full)
             have HLL2:=Lib.hid (show LL.length≤1048576∧rl.length≤1048576 from ⟨by have:=HNGG.out;omega,by have:=hfx.2.2;omega⟩)
             have HLT:=Lib.hid hlt
             have c0:=BX4.out.c0
             have c1:=BX4.out.c1
             have ed:=cell_lt d0
             have eb:=cell_lt c0
             clear hgv e0' e1' hlt hfx hll hnrv hnrl hLL hml
             go_wp2_with fail
             refine(ref_mergeLineage _ _ LL rl _ (SL5.out.ext ((Ext.refl _).alloc _).full) (SR5.out.ext ((Ext.refl _).alloc _).full) HLL2.out.1 HLL2.out.2).mono ?_
             rintro e w6 ⟨v6,rfl,s6,x6⟩
             obtain⟨n6,hn6⟩ : ∃z,z=(mergeL LL rl).length:=⟨_,rfl⟩
             obtain⟨p6,k6,hv6,-⟩:=s6.form
             rw [←hn6]at hv6
             subst hv6
             have X46:=Lib.hid (((Ext.refl wr).alloc (.cells #[.slice ph nrv kh,.slice pr nrl kr] 70)).trans x6)
             have B6:=Lib.hid (BX4.out.ext X46.out)
             have b1:=B6.out.c1
             have f1:=B6.out.f1
             have S6:=Lib.hid (show SliceOf Rep.int (on (w6.setCell ⟨E,1,none⟩ (.slice p6 n6 k6)) (fun b=>E<b∧(Value.slice pv nv cv).ownBlock≠some b)) (.slice p6 n6 k6) (mergeL LL rl)from s6.ext ((on_mono w6 fun b _ (hb:_≤b)=>by
              rw [alloc_size]at hb
              have h1:=cell_lt BX4.out.c0
              exact⟨by omega,fun e=>by have h2:=(OV4.out.lt b e).2;omega⟩).trans (set_sub w6 ⟨E,1,none⟩ _ fun h=>absurd h.1 (Nat.lt_irrefl E))))
             have O6:=Lib.hid ((OV4.out.ext X46.out).chg flat_valC (chg_set w6 ⟨E,1,none⟩ (.slice p6 n6 k6)) (fun k hk e=>by have h1:=(OV4.out.lt k hk).1;simp only at e;omega))
             have X6:=Lib.hid (show Ext wA (w6.setCell ⟨E,1,none⟩ (.slice p6 n6 k6))from Below.setCell (X4.out.trans X46.out) (by rw [←HEE.out];exact Nat.le_refl _) _)
             have B7:=Lib.hid (B6.out.set1 (.slice p6 n6 k6))
             clear s6 x6 hn6 d0 d1 c0 c1 ed eb SL5 SR5
             go_wp2_with fail
             go_roundg (ng - (m+1))
             case measure=>omega
             case rel=>exact⟨m+1,p6,n6,k6,by omega,rfl,by go_num,B7.out,by show SliceOf _ _ _ _;rw [HLT.out];exact S6.out,O6.out,X6.out⟩
            ·have hmn:m=ng:=by omega
             have hdm : ¬(m:Int)<(ng:Int):=by omega
             rw [hmn,HNGG.out,List.take_length]at SL4
             clear hmn hltm hm
             obtain⟨LG,hLG⟩ : ∃z,z=gLin g:=⟨_,rfl⟩
             rw [←hLG]at SL4
             have HLG:=Lib.hid hLG
             obtain⟨f,hf⟩ : ∃f:AggI→Val,f=fun x=>aggR x.kind (g.map fun r=>evalE es x.arg (r.vals.drop K)):=⟨_,rfl⟩
             have HF:=Lib.hid hf
             clear hLG hf
             go_wp2_with fail
             go_loopg [142] G (fun ga vi w5=> ∃(a:Nat) (pz:Option Addr) (nz cz:Nat),a≤G∧ga=G - a∧vi = .int .i64 a∧Hid (Bx2 w5 E (.slice pz nz cz) (.slice pl nl cl))∧Hid (SliceOf Rep.int (on w5 (fun b=>E<b∧(Value.slice pz nz cz).ownBlock≠some b)) (.slice pl nl cl) LG)∧Hid (OwnOf Rep.val w5 (fun _=>True) (E+1) 73 (.slice pz nz cz) (hv++(aggs.take a).map f))∧Hid (Ext wA w5))
             case atStart=>exact⟨0,pv,nv,cv,by omega,rfl,rfl,BX4.out,SL4.out,by show OwnOf _ _ _ _ _ _ (hv ++ []);rw [List.append_nil];exact OV4.out,X4.out⟩
             case round =>
              obtain⟨a,pz,nz,cz,ha,rfl,rfl,BX5,SL5,OV5,X5⟩:=hrel
              obtain⟨w5,rfl⟩ : ∃z,z=wr:=⟨wr,rfl⟩
              clear BX4 SL4 OV4 X4
              by_cases hlta:a<G
              ·have hal:a<aggs.length:=by have:=HGG.out;omega
               have hda:decide ((a:Int)<(G:Int))=true:=by simp;omega
               obtain⟨ba,oa,rfl⟩:=HPG.out (by decide) (by omega)
               obtain⟨b0,b1⟩:=agg_at HG.out a hal
               replace b0:=(XW.out.trans (X.out.trans X5.out)).at b0
               replace b1:=(XW.out.trans (X.out.trans X5.out)).at b1
               have hstp:hv++(aggs.take (a+1)).map f=(hv++(aggs.take a).map f) ++ [f aggs[a]]:=by rw [List.take_succ_eq_append_getElem hal,List.map_append,←List.append_assoc];rfl
               have hfa:f aggs[a]=aggR aggs[a].kind (g.map fun r=>evalE es aggs[a].arg (r.vals.drop K)):=by rw [HF.out]
               obtain⟨y,hy⟩ : ∃z,z=f aggs[a]:=⟨_,rfl⟩
               rw [←hy]at hstp hfa
               obtain⟨ar,har⟩ : ∃z,z=aggs[a].arg:=⟨_,rfl⟩
               obtain⟨ak,hak⟩ : ∃z,z=aggs[a].kind:=⟨_,rfl⟩
               rw [←har]at b1 hfa
               rw [←hak]at b0 hfa
               obtain⟨yk,yn,ys⟩:=y
               have HSTP:=Lib.hid hstp
               have HFY:=Lib.hid hfa
               obtain⟨xs,hxs⟩ : ∃x,x=hv++(aggs.take a).map f:=⟨_,rfl⟩
               rw [←hxs]at OV5
               have HXS:=Lib.hid hxs
               have hxl:xs.length≤2000:=by have h1:=HNV.out;rw [hxs,List.length_append,List.length_map,List.length_take];omega
               have e0:=cell_lt b0
               clear hstp hfa hy har hak hxs hal
               go_wp2_with fail
               obtain⟨Q,hQ⟩ : ∃z,z=w5.heap.size:=⟨_,rfl⟩
               have HQ:=Lib.hid hQ
               have q0:(w5.alloc (.cells #[.int .i64 ak,.int .i64 ar] 98)).cell? ⟨w5.heap.size,0,none⟩=some (.int .i64 ak):=by go_simp
               have q1:(w5.alloc (.cells #[.int .i64 ak,.int .i64 ar] 98)).cell? ⟨w5.heap.size,1,none⟩=some (.int .i64 ar):=by go_simp
               have x6:Ext w5 (w5.alloc (.cells #[.int .i64 ak,.int .i64 ar] 98)):=(Ext.refl w5).alloc _
               generalize (w5.alloc (.cells #[.int .i64 ak,.int .i64 ar] 98))=w6 at q0 q1 x6 ⊢
               rw [←hQ]at q0 q1 ⊢
               have HQ6:=Lib.hid (And.intro q0 q1)
               have X56:=Lib.hid x6
               clear hQ q0 q1 x6 b0 b1 e0
               go_loopg [24,148] ng (fun gs vs vi wr=> ∃(s:Nat) (us:Value),s≤ng∧gs=ng - s∧vi = .int .i64 s∧us=vs∧Hid (OwnOf Rep.val wr (fun _=>True) w6.heap.size 73 us ((g.take s).map fun r=>evalE es ar (r.vals.drop K)))∧Hid (Ext w6 wr))
               case atStart=>exact⟨0,_,by omega,rfl,rfl,rfl,OwnOf.nil _ _ _ _ _,Ext.refl w6⟩
               case round =>
                    obtain⟨s,us,hs,rfl,rfl,rfl,OS,X6⟩:=hrel
                    by_cases hlts:s<ng
                    ·have hsl:s<g.length:=by have:=HNGG.out;omega
                     have hds:decide ((s:Int)<(ng:Int))=true:=by simp;omega
                     obtain⟨bq,oq,rfl⟩:=HPQ.out (by decide) (by omega)
                     have hgv:=GG.out
                     obtain⟨ha',hb',d0,d1,e0',e1'⟩:=row_at hgv s hsl
                     obtain⟨ph,kh,hva,-⟩:=e0'.form
                     obtain⟨pr,kr,hvb,-⟩:=e1'.form
                     subst hva hvb
                     have XB6:=Lib.hid (X.out.trans (X5.out.trans (X56.out.trans X6.out)))
                     replace d0:=XB6.out.at d0
                     replace d1:=XB6.out.at d1
                     have hst6:((g.take (s+1)).map fun r=>evalE es ar (r.vals.drop K))=((g.take s).map fun r=>evalE es ar (r.vals.drop K)) ++ [evalE es ar (g[s].vals.drop K)]:=by rw [List.take_succ_eq_append_getElem hsl,List.map_append];rfl
                     have hfx:=HGF1.out.2 g[s] (List.getElem_mem hsl)
                     generalize g[s]=r at d0 d1 e0' e1' hst6 hfx
                     obtain⟨rv,rl⟩:=r
                     dsimp only at d0 d1 e0' e1' hst6 hfx
                     obtain⟨nrv,hnrv⟩ : ∃z,z=rv.length:=⟨_,rfl⟩
                     obtain⟨nrl,hnrl⟩ : ∃z,z=rl.length:=⟨_,rfl⟩
                     rw [←hnrv]at d0 e0' hfx
                     rw [←hnrl]at d1
                     obtain⟨oS,hoS⟩ : ∃z,z=(g.take s).map fun r=>evalE es ar (r.vals.drop K):=⟨_,rfl⟩
                     have hosl:oS.length≤1000:=by rw [hoS,List.length_map,List.length_take];omega
                     rw [←hoS]at OS hst6
                     have HST6:=Lib.hid hst6
                     have hKrv:K≤nrv:=hfx.1
                     have hKkh:nrv≤kh:=by obtain⟨_,_,h1,h2,_⟩:=e0'.form;injection h1 with _ h3 h4;omega
                     have hsuf:=e0'.suf K (by rw [←hnrv];exact hKrv)
                     rw [←hnrv]at hsuf
                     by_cases hck:kh=K
                     ·rw [if_pos hck]at hsuf
                      have hck2:K=kh:=hck.symm
                      clear hck
                      subst hck2
                      rw [Nat.sub_self,Nat.sub_eq_zero_of_le (show nrv≤K from hKkh)]at hsuf
                      have HSUF:=Lib.hid hsuf
                      clear hsuf
                      have hoy:okVal (evalE es ar (rv.drop K)):=ok_evalE (expr_oks HE.out) (fun v hv=>vals_ok e0' v (List.mem_of_mem_drop hv)) _
                      obtain⟨z,hz⟩ : ∃z,z=evalE es ar (rv.drop K):=⟨_,rfl⟩
                      rw [←hz]at HST6 hoy
                      have HZ:=Lib.hid hz
                      obtain⟨zk,zn,zs⟩:=z
                      have HOZ:=Lib.hid hoy
                      obtain⟨ps,cs,hus,-⟩:=OS.out.slice.form
                      subst hus
                      obtain⟨nS,hnS⟩ : ∃z,z=oS.length:=⟨_,rfl⟩
                      rw [←hnS]at OS ⊢
                      have HNS:=Lib.hid hnS
                      have B1:oS.length+1≤maxLen:=by unfold maxLen;omega
                      have B2:(oS.length+1)*32≤140737488355328:=by omega
                      have q1:=X6.out.at HQ6.out.2
                      have eq1:=cell_lt q1
                      have ed:=cell_lt d0
                      clear hgv e0' e1' hst6 hfx hnrv hnrl hoS hz hoy hnS hsl
                      go_wp2_with fail
                      have xn:=(Ext.refl wr).alloc (.cells #[.slice ph nrv K,.slice pr nrl kr] 70)
                      have b0:(wr.alloc (.cells #[.slice ph nrv K,.slice pr nrl kr] 70)).cell? ⟨wr.heap.size,0,none⟩=some (.slice ph nrv K):=by go_simp
                      have hsz:(wr.alloc (.cells #[.slice ph nrv K,.slice pr nrl kr] 70)).heap.size=wr.heap.size+1:=by simp
                      generalize (wr.alloc (.cells #[.slice ph nrv K,.slice pr nrl kr] 70))=w8 at xn b0 hsz ⊢
                      have hS0:Ext w6 w8.drew∧w8.drew.cell? ⟨wr.heap.size,0,none⟩=some (.slice ph nrv K)∧w8.drew.cell? ⟨Q,1,none⟩=some (.int .i64 ar):=⟨(X6.out.trans xn).drew,b0,xn.at q1⟩
                      have O8:=Lib.hid (OS.out.ext xn.drew)
                      have X68:=Lib.hid (XB6.out.trans xn.drew)
                      clear xn b0 hsz q1 eq1 ed d0 d1
                      go_region_held3 (fun w'=>Ext w6 w'∧w'.cell? ⟨wr.heap.size,0,none⟩=some (.slice ph nrv K)∧w'.cell? ⟨Q,1,none⟩=some (.int .i64 ar))
                       (first |with_reducible assumption | with_reducible exact keepE2 (by assumption) x4 | with_reducible exact keepE2 (by assumption) ((Ext.refl _).alloc _))
                       (first
                         |(go_at_call 118;refine(refEval_any _ es ar _ (rv.drop K) _ (by exact HE.out.ext (XW.out.trans X68.out).full) HEL.out (by exact HSUF.out.ext X68.out.full)).mono ?_;rintro e w4 ⟨rfl,x4⟩;rw [←HZ.out];have K4:=keepE2 hS0 x4;have O4:=Lib.hid (O8.out.ext x4))
                         |((with_reducible refine key_op 163 ?_);refine step_append_one Rep.val (fun _=>True) rfl _ _ 68 rfl w6.heap.size 73 i1 _ 32 Tryz.underlying68 hi1 hz10 hz11 hz12 rfl (by decide) (.slice ps nS cs) oS rfl (O4.out.ext ((Ext.refl _).alloc _)) ⟨_,0,none⟩ 1 ⟨zk,zn,zs⟩ [.int .i64 zk,.int .i64 zn,.string zs] rfl ⟨rfl,HOZ.out⟩ (cells_new _ [.int .i64 zk,.int .i64 zn,.string zs] _) B1 B2 (K4.1.alloc _).size ?_;intro g9 c9 w9 own9 gr9 hat9;have K9:=keepY2 (keepE2 K4 ((Ext.refl _).alloc _)) gr9 (fun b hb=>(O4.out.lt b hb).1) (fun b hb=>by have h1:=O4.out.lt b hb;have h2:=(OS.out.lt b hb).2;have h3:=cell_lt HQ6.out.2;have h4:=(OS.out.lt b hb).1;omega);have O9:=Lib.hid own9;clear own9 gr9 hat9)
                         |fail)
                      all_goals
                       have X9:=Lib.hid K9.1
                       clear hS0
                       rw [←HNS.out]at O9 ⊢
                       go_wp2_with fail
                       go_roundg (ng - (s+1))
                       case measure=>omega
                       case rel=>exact⟨s+1,_,by omega,rfl,by go_num,rfl,by show OwnOf _ _ _ _ _ _ _;rw [HST6.out];exact O9.out,X9.out⟩
                     ·rw [if_neg hck]at hsuf
                      have HSUF:=Lib.hid hsuf
                      clear hsuf
                      have hoy:okVal (evalE es ar (rv.drop K)):=ok_evalE (expr_oks HE.out) (fun v hv=>vals_ok e0' v (List.mem_of_mem_drop hv)) _
                      obtain⟨z,hz⟩ : ∃z,z=evalE es ar (rv.drop K):=⟨_,rfl⟩
                      rw [←hz]at HST6 hoy
                      have HZ:=Lib.hid hz
                      obtain⟨zk,zn,zs⟩:=z
                      have HOZ:=Lib.hid hoy
                      obtain⟨ps,cs,hus,-⟩:=OS.out.slice.form
                      subst hus
                      obtain⟨nS,hnS⟩ : ∃z,z=oS.length:=⟨_,rfl⟩
                      rw [←hnS]at OS ⊢
                      have HNS:=Lib.hid hnS
                      have B1:oS.length+1≤maxLen:=by unfold maxLen;omega
                      have B2:(oS.length+1)*32≤140737488355328:=by omega
                      have q1:=X6.out.at HQ6.out.2
                      have eq1:=cell_lt q1
                      have ed:=cell_lt d0
                      clear hgv e0' e1' hst6 hfx hnrv hnrl hoS hz hoy hnS hsl
                      go_wp2_with fail
                      have xn:=(Ext.refl wr).alloc (.cells #[.slice ph nrv kh,.slice pr nrl kr] 70)
                      have b0:(wr.alloc (.cells #[.slice ph nrv kh,.slice pr nrl kr] 70)).cell? ⟨wr.heap.size,0,none⟩=some (.slice ph nrv kh):=by go_simp
                      have hsz:(wr.alloc (.cells #[.slice ph nrv kh,.slice pr nrl kr] 70)).heap.size=wr.heap.size+1:=by simp
                      generalize (wr.alloc (.cells #[.slice ph nrv kh,.slice pr nrl kr] 70))=w8 at xn b0 hsz ⊢
                      have hS0:Ext w6 w8.drew∧w8.drew.cell? ⟨wr.heap.size,0,none⟩=some (.slice ph nrv kh)∧w8.drew.cell? ⟨Q,1,none⟩=some (.int .i64 ar):=⟨(X6.out.trans xn).drew,b0,xn.at q1⟩
                      have O8:=Lib.hid (OS.out.ext xn.drew)
                      have X68:=Lib.hid (XB6.out.trans xn.drew)
                      clear xn b0 hsz q1 eq1 ed d0 d1
                      go_region_held3 (fun w'=>Ext w6 w'∧w'.cell? ⟨wr.heap.size,0,none⟩=some (.slice ph nrv kh)∧w'.cell? ⟨Q,1,none⟩=some (.int .i64 ar))
                       (first |with_reducible assumption | with_reducible exact keepE2 (by assumption) x4 | with_reducible exact keepE2 (by assumption) ((Ext.refl _).alloc _))
                       (first
                         |(go_at_call 118;refine(refEval_any _ es ar _ (rv.drop K) _ (by exact HE.out.ext (XW.out.trans X68.out).full) HEL.out (by exact HSUF.out.ext X68.out.full)).mono ?_;rintro e w4 ⟨rfl,x4⟩;rw [←HZ.out];have K4:=keepE2 hS0 x4;have O4:=Lib.hid (O8.out.ext x4))
                         |((with_reducible refine key_op 163 ?_);refine step_append_one Rep.val (fun _=>True) rfl _ _ 68 rfl w6.heap.size 73 i1 _ 32 Tryz.underlying68 hi1 hz10 hz11 hz12 rfl (by decide) (.slice ps nS cs) oS rfl (O4.out.ext ((Ext.refl _).alloc _)) ⟨_,0,none⟩ 1 ⟨zk,zn,zs⟩ [.int .i64 zk,.int .i64 zn,.string zs] rfl ⟨rfl,HOZ.out⟩ (cells_new _ [.int .i64 zk,.int .i64 zn,.string zs] _) B1 B2 (K4.1.alloc _).size ?_;intro g9 c9 w9 own9 gr9 hat9;have K9:=keepY2 (keepE2 K4 ((Ext.refl _).alloc _)) gr9 (fun b hb=>(O4.out.lt b hb).1) (fun b hb=>by have h1:=O4.out.lt b hb;have h2:=(OS.out.lt b hb).2;have h3:=cell_lt HQ6.out.2;have h4:=(OS.out.lt b hb).1;omega);have O9:=Lib.hid own9;clear own9 gr9 hat9)
                         |fail)
                      all_goals
                       have X9:=Lib.hid K9.1
                       clear hS0
                       rw [←HNS.out]at O9 ⊢
                       go_wp2_with fail
                       go_roundg (ng - (s+1))
                       case measure=>omega
                       case rel=>exact⟨s+1,_,by omega,rfl,by go_num,rfl,by show OwnOf _ _ _ _ _ _ _;rw [HST6.out];exact O9.out,X9.out⟩
                    ·have hsn:s=ng:=by omega
                     have hds : ¬(s:Int)<(ng:Int):=by omega
                     rw [hsn,HNGG.out,List.take_length]at OS
                     clear hsn hlts hs
                     obtain⟨VS,hVS⟩ : ∃z,z=g.map fun r=>evalE es ar (r.vals.drop K):=⟨_,rfl⟩
                     rw [←hVS]at OS HFY
                     have hvl:VS.length≤1000:=by rw [hVS,List.length_map,←HNGG.out];exact hngl
                     obtain⟨ps,cs,hus,-⟩:=OS.out.slice.form
                     subst hus
                     obtain⟨nS,hnS⟩ : ∃z,z=VS.length:=⟨_,rfl⟩
                     rw [←hnS]at OS ⊢
                     have hoky:okVal (aggR ak VS):=ok_aggR ak (vals_ok OS.out.slice) (by omega)
                     rw [←HFY.out]at hoky
                     have HOKY:=Lib.hid hoky
                     have HAG:=Lib.hid (show ∀wx,Ext wr wx→Calls Tryz.prog 119 #[.int .i64 ak,.slice ps nS cs] wx fun e w'=>e = .returned (.agg #[.int .i64 yk,.int .i64 yn,.string ys])∧Ext wx w' from fun wx h=>by
                      have h1:=refAgg_any ak (.slice ps nS cs) VS wx (OS.out.slice.ext h.full) (by omega)
                      rw [←HFY.out]at h1
                      exact h1)
                     have X57:=Lib.hid (X56.out.trans X6.out)
                     have BX7:=Lib.hid (BX5.out.ext X57.out)
                     have OV7:=Lib.hid (OV5.out.ext X57.out)
                     have m0:=BX7.out.c0
                     have k0:=X6.out.at HQ6.out.1
                     have em:=cell_lt m0
                     have ek:=cell_lt k0
                     have B1:xs.length + [(⟨yk,yn,ys⟩:Val)].length≤maxLen:=by simp [maxLen];omega
                     have B2:(xs.length + [(⟨yk,yn,ys⟩:Val)].length)*32≤140737488355328:=by simp;omega
                     have XD:=Lib.hid ((Ext.refl wr).drew)
                     have HUZ:=Lib.hid (show ∀b,(Value.slice pz nz cz).ownBlock=some b→E+1≤b∧b<wr.heap.size from fun b hb=>OV7.out.lt b hb)
                     have HE6:=Lib.hid (show E<wr.heap.size from em)
                     clear hVS hvl hnS hoky OS
                     go_wp2_with fail
                     go_region_law (first
                      |((with_reducible refine key_op 170 ?_);go_simp;refine(HAG.out _ (by first | with_reducible exact XD.out | exact XD.out)).mono ?_;rintro e w2 ⟨rfl,hx2⟩;have hy2:=Lib.hid (XD.out.trans hx2);have m2:=hy2.out.at BX7.out.c0;have e9:=cell_lt m2)
                      |((with_reducible refine key_op 172 ?_);(try simp only [Act.put,List.setIfInBounds_toArray,List.set_cons_zero,List.set_cons_succ]);refine step_append_all Rep.val (fun _=>True) rfl _ _ 68 rfl (E+1) 73 i1 _ 32 Tryz.underlying68 hi1 hz10 hz11 hz12 rfl (by decide) (.slice pz nz cz) xs rfl (OV7.out.ext (hy2.out.alloc _)) _ [⟨yk,yn,ys⟩] rfl (lit_new (R:=Rep.val) w2 [.int .i64 yk,.int .i64 yn,.string ys] 73 [[.int .i64 yk,.int .i64 yn,.string ys]] [⟨yk,yn,ys⟩] rfl (fun _=>⟨⟨rfl,HOKY.out⟩,trivial⟩) (by simp [maxLen]) (fun x hx=>Nat.lt_of_lt_of_le (HUZ.out x hx).2 hy2.out.size)) B1 B2 (Nat.le_trans (Nat.succ_le_of_lt HE6.out) (hy2.out.alloc _).size) ?_;intro v8 w8 own8 gr8 hg8;obtain⟨p8,n8,c8,rfl⟩ : ∃p n c,v8 = .slice p n c:=(by obtain⟨pz,cz,hz,_⟩:=own8.shapeL;exact⟨_,_,_,hz⟩);have B8:=Lib.hid ((BX7.out.ext (hy2.out.alloc _)).grown gr8 (fun k e=>by have h1:=HUZ.out k e;omega));have m8:=B8.out.c0;have f8:=B8.out.f0))
                     all_goals
                      have CH:Chg (fun k=>k=E∨(Value.slice pz nz cz).ownBlock=some k) wr (w8.setCell ⟨E,0,none⟩ (.slice p8 n8 c8)):=(((hy2.out.alloc (.cells #[.int .i64 yk,.int .i64 yn,.string ys] 73)).chg _).grown gr8 (fun k e=> .inl (.inr e))).setCell (.inl (.inl rfl)) _
                      have SL8:=Lib.hid (show SliceOf Rep.int (on (w8.setCell ⟨E,0,none⟩ (.slice p8 n8 c8)) (fun b=>E<b∧(Value.slice p8 n8 c8).ownBlock≠some b)) (.slice pl nl cl) LG from (SL5.out.ext (X57.out.sub _)).ext fun p u e=>by
                       obtain⟨⟨e1,e2⟩,e3⟩:=on_some.1 e
                       have hp:=World.block_lt_of_cell? wr p e3
                       refine on_some.2 ⟨⟨e1,fun e4=> ?_⟩,CH.at e3 (fun h=>h.elim (fun h=>by omega) e2)⟩
                       rcases hg8 with h | h
                       · exact e2 (h▸e4)
                       · have h2:=Option.some.inj (h.symm.trans e4)
                         have h3:=(hy2.out.alloc (.cells #[.int .i64 yk,.int .i64 yn,.string ys] 73)).size
                         omega)
                      have O8:=Lib.hid (show OwnOf Rep.val (w8.setCell ⟨E,0,none⟩ (.slice p8 n8 c8)) (fun _=>True) (E+1) 73 (.slice p8 n8 c8) (hv++(aggs.take (a+1)).map f)from by
                       rw [HSTP.out,←HXS.out]
                       exact own8.chg flat_valC (chg_set w8 ⟨E,0,none⟩ _) (fun k h e=>by have h1:=(own8.lt k h).1;simp only at e;omega))
                      have X8:=Lib.hid (show Ext wA (w8.setCell ⟨E,0,none⟩ (.slice p8 n8 c8))from CH.below (X5.out.trans X57.out) (fun k e=>by
                       have h0:=HEE.out
                       rcases e with e | e
                       · omega
                       · have h1:=HUZ.out k e;omega))
                      have B9:=Lib.hid (B8.out.set0 (.slice p8 n8 c8))
                      clear CH own8 gr8 hg8 m8 f8 hy2 m2 B8
                      go_wp2_with fail
                      go_roundg (G - (a+1))
                      case measure=>omega
                      case rel=>exact⟨a+1,p8,n8,c8,by omega,rfl,by go_num,B9.out,SL8.out,O8.out,X8.out⟩
              ·have haG:a=G:=by omega
               have hda : ¬(a:Int)<(G:Int):=by omega
               have hrow:gRow1 es K aggs g=⟨hv++(aggs.take a).map f,LG⟩:=by
                    unfold gRow1
                    rw [haG,HGG.out,List.take_length,HHV.out,HLG.out,HF.out]
               have HROW:=Lib.hid hrow
               obtain⟨xs,hxs⟩ : ∃x,x=hv++(aggs.take a).map f:=⟨_,rfl⟩
               rw [←hxs]at OV5 HROW
               have c0:=BX5.out.c0
               have c1:=BX5.out.c1
               have ec:=cell_lt c0
               have B1:o.length+1≤maxLen:=by have:=HNO.out;unfold maxLen;omega
               have B2:(o.length+1)*48≤140737488355328:=by have:=HNO.out;omega
               have HOL:=Lib.hid (show Rep.row.holds (on w5 (avoid (since wb) (.slice pu no cu))) [.slice pz nz cz,.slice pl nl cl] ⟨xs,LG⟩from ⟨_,_,rfl,(OV5.out.fresh flat_valC).ext (on_mono w5 fun b _ hb=>⟨fun e=>by have h1:=HUL.out b e.symm;omega,by have h1:=HWE.out;show wb.heap.size≤b;omega⟩),SL5.out.ext (on_mono w5 fun b _ hb=>⟨fun e=>by have h1:=HUL.out b e.symm;omega,by have h1:=HWE.out;show wb.heap.size≤b;omega⟩)⟩)
               have O5:=Lib.hid (OW.out.ext X5.out)
               have XB:=Lib.hid (X.out.trans X5.out)
               clear haG hrow hxs hlta ha
               go_wp2_with (at_builtin;go_loud (refine wpList_append_one Rep.row (since wb) rfl _ _ 52 rfl wb.heap.size 70 i0 _ 48 Tryz.underlying52 hi hz0 hz1 hz2 rfl (by decide) (.slice pu no cu) o rfl (O5.out.ext ((Ext.refl _).alloc _)) ⟨_,0,none⟩ 1 ⟨xs,LG⟩ [.slice pz nz cz,.slice pl nl cl] rfl (Rep.row.ext HOL.out (((Ext.refl _).alloc _).sub _)) (by exact cells_new _ [.slice pz nz cz,.slice pl nl cl] _) B1 B2 (by exact(XB.out.alloc _).size) ?_))
               intro g9 c9 w9 own9 gr9 _
               have X9:=Lib.hid (show Ext wb w9 from ext_grown (XB.out.alloc _) gr9 (fun b hb=>(HUL.out b hb).1))
               rw [←HNO.out]at own9 ⊢
               have O9:=Lib.hid own9
               clear own9 gr9
               go_wp2_with fail
               go_roundg (NG - (j+1))
               case measure=>omega
               case rel=>exact⟨j+1,_,by omega,rfl,by go_num,rfl,by show OwnOf _ _ _ _ _ _ _;rw [HST3.out,HROW.out];exact O9.out,X9.out⟩
         ·have hjN:j=NG:=by omega
          have hdj : ¬(j:Int)<(NG:Int):=by omega
          have HF:=Lib.hid (show (GS.take j).map (gRow1 es K aggs)=groupR es keys aggs rows from by rw [HGS.out,hjN,HNG.out,List.take_length])
          have HSW:=Lib.hid (show w.heap.size≤wb.heap.size from XW.out.size)
          clear hjN
          go_wp2_with fail
          go_ret
          exact⟨_,rfl,by rw [←HF.out];exact OW.out.sliceIn (fun b _ h=>Nat.le_trans HSW.out h) (fun b h=>Nat.le_trans HSW.out h),XW.out.trans X.out⟩
end Go.Proofs.YtkddkbpoefidpaaGreatDoor
