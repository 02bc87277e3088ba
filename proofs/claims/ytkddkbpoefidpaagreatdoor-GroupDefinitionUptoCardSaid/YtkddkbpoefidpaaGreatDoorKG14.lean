/- joined texts of a proof: RowG, GrpY, BagT, PlainM, PlainJ, RefC, RefS -/
import Derived.Test.YtkddkbpoefidpaaGreatDoorKG08
import Derived.Test.YtkddkbpoefidpaaGreatDoorKG13
import Derived.Test.YtkddkbpoefidpaaGreatDoorKG10
import Derived.Test.YtkddkbpoefidpaaGreatDoorKG03
import Derived.Test.YtkddkbpoefidpaaGreatDoorKG02
import Derived.Test.YtkddkbpoefidpaaGreatDoorKG04
import Derived.Test.YtkddkbpoefidpaaGreatDoorKG07
import Derived.Test.YtkddkbpoefidpaaGreatDoorKG01
namespace Go.Proofs.YtkddkbpoefidpaaGreatDoor
open Go.RowKit
set_option maxRecDepth 100000 in
set_option maxHeartbeats 8000000 in
theorem row_gen (G:Nat) (ve:Value) (va:Value) (aggs:List AggI) (kv:Value) (key:List Val) (tv:Value) (ms:List Tup) (t:Int) (w:World) (hg0:w.cell? ⟨G,0,none⟩=some ve) (hve:ShSl ve) (hg1:w.cell? ⟨G,1,none⟩=some va) (ha:SliceOf Rep.agg w.cell? va aggs) (F:AggI→List (List Val)→Val) (hF : ∀a∈aggs,okVal (F a (memV ms t))∧ ∀mv wx,Ext w wx→SliceOf (Rep.slice Rep.val) wx.cell? mv (memV ms t)→Calls Tryz.prog 109 #[ve,.agg #[.int .i64 a.kind,.int .i64 a.arg],mv] wx fun e w'=>e = .returned (valV (F a (memV ms t)))∧Ext wx w') (hal:aggs.length≤1000)
  (hk:SliceOf Rep.val w.cell? kv key) (hkl:key.length≤1000) (hm:SliceOf Rep.tup w.cell? tv ms) (hml:ms.length≤4096) (hmf : ∀m∈ms,m.lin.length≤256) :
  Calls Tryz.prog 56 #[.pointer (some ⟨G,0,none⟩),kv,tv,.int .i64 t] w fun e w'=> ∃a b,e = .returned (.tuple #[.agg #[a,b],.bool (decide (0<(memV ms t).length))])∧SliceOf Rep.val (on w' (since w)) a (gRow (fun vss=>aggs.map fun a=>F a vss) key ms t).vals∧SliceOf Rep.int (on w' (since w)) b (gRow (fun vss=>aggs.map fun a=>F a vss) key ms t).lin∧Ext w w':=by
 obtain⟨i2,hi2,hz20,hz21,hz22⟩:=info_parts info_ints
 obtain⟨i3,hi3,hz30,hz31,hz32⟩:=info_parts info_val3
 obtain⟨i4,hi4,hz40,hz41,hz42⟩:=info_parts info_vals
 obtain⟨pe,ne,ce,rfl⟩:=hve
 obtain⟨pa,ca,rfl,_,_,hpa⟩:=ha.form
 obtain⟨pk,ck,rfl,_⟩:=hk.form
 obtain⟨p,cap,rfl,hc1,hc2,hp⟩:=hm.form
 obtain⟨N,hN⟩ : ∃N,N=ms.length:=⟨_,rfl⟩
 have HV:=Lib.hid hm
 rw [←hN]
 have HN:=Lib.hid hN
 have HP:=Lib.hid hp
 have HA:=Lib.hid ha
 have HF:=Lib.hid hF
 have HPA:=Lib.hid hpa
 have HK:=Lib.hid hk
 have HMF:=Lib.hid hmf
 have HAL:=Lib.hid hal
 have HKL:=Lib.hid hkl
 have HG:=Lib.hid (And.intro hg0 hg1)
 have hNl:N≤4096:=by omega
 clear hm hN hp hc1 hc2 ha hF hpa hk hmf hg0 hg1 hml hal hkl
 go_enter Tryz.func56,Tryz.ntmps56
 go_wp2_with fail
 go_loopg [10,11,19] N (fun gk vm vl vi wr=> ∃(k:Nat) (um ul:Value),k≤N∧gk=N - k∧vi = .int .i64 k∧um=vm∧ul=vl∧Hid (OwnOf (Rep.slice Rep.val) wr (fun x=>x<w.heap.size) (w.heap.size+1) 68 um (memV (ms.take k) t))∧Hid (OwnOf Rep.int wr (fun _=>True) (w.heap.size+1) 3 ul (memL (ms.take k) t))∧Hid (Apart um ul)∧Hid (FreeN wr w.heap.size 2)∧Hid (w.heap.size+1≤wr.heap.size)∧Ext w wr)
 case atStart=>exact⟨0,_,_,by omega,rfl,rfl,rfl,rfl,OwnOf.nil _ _ _ _ _,OwnOf.nil _ _ _ _ _,fun k hk=>(by cases hk),(fun j hj=>by
  rcases(by omega:j=0∨j=1)with rfl | rfl
  ·exact⟨⟨_,by go_simp;rfl⟩,by go_simp⟩
  ·exact⟨⟨_,by go_simp;rfl⟩,by go_simp⟩),by show w.heap.size+1≤_;simp,(Ext.refl w).alloc _⟩
 case round =>
  obtain⟨k,um,ul,hk,rfl,rfl,rfl,rfl,OM,OL,AP,FR,HSZ,hx⟩:=hrel
  by_cases hlt:k<N
  ·have hkl:k<ms.length:=by have:=HN.out;omega
   have hd:decide ((k:Int)<(N:Int))=true:=by simp;omega
   obtain⟨b,o',rfl⟩:=HP.out (by decide) (by omega)
   have hv:=HV.out
   rw [←HN.out]at hv
   obtain⟨ta,tb,c0,c1,c2,c3,g0,g1,r1,r2⟩:=tup_at hv k hkl
   obtain⟨pv,kv',ta',_⟩:=g0.form
   obtain⟨pl,kl,tb',_⟩:=g1.form
   subst ta' tb'
   replace c0:=hx.at c0
   replace c1:=hx.at c1
   replace c2:=hx.at c2
   replace c3:=hx.at c3
   obtain⟨hst1,hst2⟩:=mem_take ms t k hkl
   have hml:(memV (ms.take k) t).length≤4096:=by unfold memV;rw [List.length_map];exact Nat.le_trans (List.length_filter_le _ _) (Nat.le_trans (List.length_take_le _ _) (by omega))
   have hll:(memL (ms.take k) t).length≤1048576:=by
    have h1:=memL_len (l:=ms.take k) (n:=256) (fun u hu=>HMF.out u (List.mem_of_mem_take hu)) t
    have h2:=List.length_take_le k ms
    omega
   have hlk:=HMF.out ms[k] (List.getElem_mem hkl)
   generalize ms[k]=y at c0 c1 c2 c3 g0 g1 r1 r2 hst1 hst2 hlk
   obtain⟨vs,f,tt,ln⟩:=y
   dsimp only at c0 c1 c2 c3 g0 g1 r1 r2 hst1 hst2 hlk
   have HST1:=Lib.hid hst1
   have HST2:=Lib.hid hst2
   have G0:=Lib.hid g0
   have G1:=Lib.hid g1
   have e0:=cell_lt c0
   obtain⟨mv,hmv⟩ : ∃x,x=memV (ms.take k) t:=⟨_,rfl⟩
   obtain⟨ml,hml2⟩ : ∃x,x=memL (ms.take k) t:=⟨_,rfl⟩
   rw [←hmv]at OM hml hst1
   rw [←hml2]at OL hll hst2
   have HST1:=Lib.hid hst1
   have HST2:=Lib.hid hst2
   have HLK:=Lib.hid hlk
   clear hst1 hst2 g0 g1 r1 r2 hv hmv hml2 hlk
   go_wp2_with fail
   refine(includes_day f tt t _).mono ?_
   rintro e w1 ⟨rfl,x1⟩
   have d0:w1.cell? ⟨wr.heap.size,0,none⟩=some (.slice pv vs.length kv'):=x1.at (by go_simp)
   have d3:w1.cell? ⟨wr.heap.size,3,none⟩=some (.slice pl ln.length kl):=x1.at (by go_simp)
   have X1:=Lib.hid (show Ext wr w1 from ((Ext.refl wr).alloc _).trans x1)
   have e1:=cell_lt d0
   clear x1 c0 c1 c2 c3 e0
   cases hvb:(validB f tt&&decide (f≤t)&&decide (t<tt))with
   |true =>
    have HVB:=Lib.hid hvb
    clear hvb
    have B1:mv.length+1≤maxLen:=by unfold maxLen;omega
    have B2:(mv.length+1)*24≤140737488355328:=by omega
    go_wp2_with (at_builtin;go_loud (refine wpList_append_one (Rep.slice Rep.val) (fun x=>x<w.heap.size) rfl _ _ 175 rfl (w.heap.size+1) 68 i4 _ 24 Tryz.underlying175 hi4 hz40 hz41 hz42 rfl (by decide) um mv rfl (OM.out.ext (X1.out.alloc _)) ⟨w1.heap.size,0,none⟩ 1 vs [.slice pv vs.length kv'] rfl ?c1 (by exact cells_new w1 [.slice pv vs.length kv'] _) B1 B2 (Nat.le_trans HSZ.out (X1.out.alloc _).size) ?_))
    case c1 =>
     have hs:Sub w.cell? (on (w1.alloc (.cells #[.slice pv vs.length kv'] 68)) (avoid (fun x=>x<w.heap.size) um)):=(full_on w _ fun _ h=>h).trans (old_avoid (hx.trans (X1.out.alloc _)) ((OM.out.ext (X1.out.alloc _)).weak (fun _ _ h=>h) (Nat.le_succ _)))
     exact⟨_,rfl,G0.out.ext hs⟩
    intro g2 cap2 w2 own2 gr2 hg2
    have X1a:=X1.out.alloc (.cells #[.slice pv vs.length kv'] 68)
    have hub : ∀x,um.ownBlock=some x→w.heap.size+1≤x∧x<wr.heap.size:=fun x hx=>OM.out.lt x hx
    have hlb : ∀x,ul.ownBlock=some x→w.heap.size+1≤x∧x<wr.heap.size:=fun x hx=>OL.out.lt x hx
    have D3:=cell_grown gr2 (((Ext.refl w1).alloc (.cells #[.slice pv vs.length kv'] 68)).at d3) (fun x hx=>by have:=(hub x hx).2;omega)
    have hg2':um.ownBlock=some g2∨g2=(w1.alloc (.cells #[.slice pv vs.length kv'] 68)).heap.size:=by rcases hg2 with h | h;exact .inl h;exact .inr (by rw [h];simp)
    have OL2:=Lib.hid (own_apart flat_int' (OL.out.ext X1a) gr2 AP.out.symm)
    have OM2:=Lib.hid own2
    have AP2:=Lib.hid (show Apart ul (.slice (some ⟨g2,0,none⟩) (mv.length+1) cap2)from AP.out.symm.grow (fun x hx=>((OL.out.ext X1a).lt x hx).2) hg2')
    have FR2:=Lib.hid ((FR.out.ext X1a).grown gr2 (fun e=>by have:=(hub _ e).1;omega))
    have HX2:=Lib.hid (ext_grown (hx.trans X1a) gr2 (fun x hx=>by have:=(hub x hx).1;omega))
    have HS2:=Lib.hid (show w.heap.size+1≤w2.heap.size from Nat.le_trans HSZ.out (Nat.le_trans X1a.size gr2.size))
    have HLB:=Lib.hid hlb
    have B3:ml.length+ln.length≤maxLen:=by have:=HLK.out;unfold maxLen;omega
    have B4:(ml.length+ln.length)*8≤140737488355328:=by have:=HLK.out;omega
    have e2:=cell_lt D3
    clear own2 gr2 hg2 hg2' X1a hub hlb d0 d3 e1 OM OL AP FR hx HSZ
    go_wp2_with (at_builtin;go_loud (refine wpList_append_all Rep.int (fun _=>True) rfl _ _ 24 rfl (w.heap.size+1) 3 i2 _ 8 Tryz.underlying24 hi2 hz20 hz21 hz22 rfl (by decide) ul ml rfl OL2.out (.slice pl ln.length kl) ln rfl (G1.out.away flat_int' HX2.out (fun x hx=>by have:=(HLB.out x hx).1;omega)) B3 B4 HS2.out ?_))
    intro v3 w3 own3 gr3 hg3
    have hlb2 : ∀x,ul.ownBlock=some x→w.heap.size+1≤x:=fun x hx=>(HLB.out x hx).1
    have OM3:=Lib.hid (own_grown OM2.out gr3 (fun x hx e=>by have:=hlb2 x e;omega) (fun x hx e=>AP2.out x e hx))
    have AP3:=Lib.hid (show Apart (.slice (some ⟨g2,0,none⟩) (mv.length+1) cap2) v3 from fun x hx e=>by
     rcases hg3 with h | h
     ·rw [h]at e;exact AP2.out x e hx
     ·rw [h]at e
      have:=(OM2.out.lt x hx).2
      have:=Option.some.inj e
      omega)
    have FR3:=Lib.hid (FR2.out.grown gr3 (fun e=>by have:=hlb2 _ e;omega))
    have HX3:=Lib.hid (ext_grown HX2.out gr3 (fun x hx=>by have:=hlb2 x hx;omega))
    have HS3:=Lib.hid (Nat.le_trans HS2.out gr3.size)
    have OL3:=Lib.hid own3
    clear own3 gr3 hg3 hlb2 OM2 OL2 AP2 FR2 HX2 HS2 HLB D3 e2
    go_wp2_with fail
    go_roundg (N - (k+1))
    case measure=>omega
    case rel=>exact⟨k+1,_,v3,by omega,rfl,by go_num,rfl,rfl,by rw [HST1.out,if_pos HVB.out];exact OM3.out,by rw [HST2.out,if_pos HVB.out];exact OL3.out,AP3.out,FR3.out,HS3.out,HX3.out⟩
   |false =>
    have HVB:=Lib.hid hvb
    clear hvb d0 d3 e1
    go_wp2_with fail
    go_roundg (N - (k+1))
    case measure=>omega
    case rel=>exact⟨k+1,um,ul,by omega,rfl,by go_num,rfl,rfl,by rw [HST1.out,HVB.out,if_neg (by decide),List.append_nil];exact OM.out.ext X1.out,by rw [HST2.out,HVB.out,if_neg (by decide),List.append_nil];exact OL.out.ext X1.out,AP.out,FR.out.ext X1.out,Nat.le_trans HSZ.out X1.out.size,hx.trans X1.out⟩
  ·have hkN:k=N:=by omega
   have hd : ¬(k:Int)<(N:Int):=by omega
   obtain⟨mv,hmv⟩ : ∃x,x=memV ms t:=⟨_,rfl⟩
   obtain⟨ml,hml⟩ : ∃x,x=memL ms t:=⟨_,rfl⟩
   have hte:ms.take k=ms:=by rw [hkN,HN.out,List.take_length]
   rw [hte]at OM OL
   rw [←hmv]at OM
   rw [←hml]at OL
   have hmvl:mv.length≤4096:=by rw [hmv];unfold memV;rw [List.length_map];exact Nat.le_trans (List.length_filter_le _ _) (by have:=HN.out;omega)
   have hmll:ml.length≤1048576:=by rw [hml];have h1:=memL_len (l:=ms) (n:=256) HMF.out t;have:=HN.out;omega
   have HMV:=Lib.hid hmv
   have HML:=Lib.hid hml
   obtain⟨pm,cm,rfl,_⟩:=OM.out.shapeL
   have B5:([]:List Val).length+key.length≤maxLen:=by have:=HKL.out;simp [maxLen];omega
   have B6:(([]:List Val).length+key.length)*32≤140737488355328:=by have:=HKL.out;simp;omega
   clear hkN hte hmv hml
   go_wp2_with (at_builtin;go_loud (refine wpList_append_all Rep.val (fun _=>True) rfl _ _ 68 rfl (w.heap.size+1) 73 i3 _ 32 Tryz.underlying68 hi3 hz30 hz31 hz32 rfl (by decide) (.slice none 0 0) ([]:List Val) rfl (OwnOf.nil _ _ _ _ _) (.slice pk key.length ck) key rfl (HK.out.away (fun _ _ _ _ h=>h) hx (fun x e=>by cases e)) B5 B6 HSZ.out ?_))
   intro v4 w4 own4 gr4 hg4
   obtain⟨p4,c4,rfl,_⟩:=own4.shapeL
   have HU4:=Lib.hid (show ∀x,(Value.slice p4 key.length c4).ownBlock=some x→wr.heap.size≤x from fun x hx=>by
    rcases hg4 with h | h
    ·rw [h]at hx;cases hx
    ·rw [h]at hx;exact Nat.le_of_eq (Option.some.inj hx))
   have SM:=Lib.hid (show SliceOf (Rep.slice Rep.val) (on wr (fun x=>x<wr.heap.size)) (.slice pm mv.length cm) mv from OM.out.slice.ext (full_on wr _ fun _ h=>h))
   clear hg4
   have X4:Ext wr w4:=ext_grown (Ext.refl wr) gr4 (fun x e=>by cases e)
   have SL4:=Lib.hid ((OL.out.ext X4).slice)
   have SM4:=Lib.hid (SM.out.ext (X4.sub _))
   obtain⟨pl4,cl4,rfl,_⟩:=OL.out.shapeL
   have OV4:=Lib.hid own4
   have HX4:=Lib.hid (hx.trans X4)
   have FR4:=Lib.hid (FR.out.ext X4)
   have HS4:=Lib.hid (show w.heap.size+1≤wr.heap.size∧wr.heap.size≤w4.heap.size from ⟨HSZ.out,X4.size⟩)
   have HML5:=Lib.hid hmll
   clear own4 gr4 X4 OL OM AP FR HSZ hx hmll SM
   go_wp2_with fail
   refine(merge_lineage _ _ ml [] _ SL4.out (SliceOf.nil _ _) HML5.out (by simp)).mono ?_
   rintro e w5 ⟨v5,rfl,s5,x5⟩
   obtain⟨p5,c5,rfl,_⟩:=s5.form
   obtain⟨lg,hlg⟩ : ∃x,x=mergeL ml []:=⟨_,rfl⟩
   rw [←hlg]at s5 ⊢
   have HLG:=Lib.hid hlg
   have OV5:=Lib.hid (OV4.out.ext x5)
   have HUV5:=Lib.hid (show ∀x,(Value.slice p4 key.length c4).ownBlock=some x→wr.heap.size≤x∧x<w4.heap.size from fun x hx=>⟨HU4.out x hx,(OV4.out.lt x hx).2⟩)
   have SM5:=Lib.hid (SM4.out.ext (x5.sub _))
   have FR5:=Lib.hid (FR4.out.ext x5)
   have HX5:=Lib.hid (HX4.out.trans x5)
   have HW45:=Lib.hid (show w.heap.size+1≤w4.heap.size∧w4.heap.size≤w5.heap.size from ⟨by have:=HS4.out;omega,x5.size⟩)
   obtain⟨Q4,hQ4⟩ : ∃q,q=w4.heap.size:=⟨_,rfl⟩
   have S5:=Lib.hid (show SliceOf Rep.int (on w5 (fun x=>Q4≤x∧x<w5.heap.size)) (.slice p5 lg.length c5) lg from s5.ext (on_mono w5 fun x h1 h2=>⟨by rw [hQ4];exact h2,h1⟩))
   rw [←hQ4]at HUV5 HW45
   obtain⟨Q3,hQ3⟩ : ∃q,q=wr.heap.size:=⟨_,rfl⟩
   rw [←hQ3]at HUV5 SM5
   have HQ34:=Lib.hid (show Q3≤Q4 from by have:=HS4.out;omega)
   clear s5 x5 hlg hQ4 hQ3 OV4 FR4 HX4 HS4 SL4 SM4 HU4
   obtain⟨K,hK⟩ : ∃K,K=aggs.length:=⟨_,rfl⟩
   have HKK:=Lib.hid hK
   have hK1:K≤1000:=by rw [hK];exact HAL.out
   have HKL2:=Lib.hid HKL.out
   obtain⟨ng,hng⟩ : ∃n,n=mv.length:=⟨_,rfl⟩
   have HNG:=Lib.hid hng
   have hngl:ng≤4096:=by omega
   rw [←hng]at SM5
   rw [←hng]
   try rw [←hK]
   have g1':=HX5.out.at HG.out.2
   try rw [←hK]at g1'
   have e5:=cell_lt g1'
   clear hK hng hmvl
   go_wp2_with fail
   go_loopg [47] K (fun gk vi wr=> ∃(j:Nat) (pu:Option Addr) (nu cu:Nat),j≤K∧gk=K - j∧vi = .int .i64 j∧Hid (wr.cell? ⟨w5.heap.size,0,none⟩=some (.slice pu nu cu)∧wr.cell? ⟨w5.heap.size,1,none⟩=some (.slice p5 lg.length c5)∧wr.frozen? ⟨w5.heap.size,0,none⟩=false)∧Hid (OwnOf Rep.val wr (fun _=>True) (w.heap.size+1) 73 (.slice pu nu cu) (key++(aggs.take j).map (fun a=>F a mv)))∧Hid (∀x,(Value.slice pu nu cu).ownBlock=some x→(Q3≤x∧x<Q4)∨w5.heap.size<x)∧Hid (SliceOf (Rep.slice Rep.val) (on wr (fun x=>x<Q3)) (.slice pm ng cm) mv)∧Hid (SliceOf Rep.int (on wr (fun x=>Q4≤x∧x<w5.heap.size)) (.slice p5 lg.length c5) lg)∧Hid (FreeN wr w.heap.size 2)∧Hid (Ext w wr))
   case atStart =>
    refine⟨0,p4,key.length,c4,by omega,rfl,rfl,⟨by exact cells_new w5 [_,_] 70 0 _ rfl,by exact cells_new w5 [_,_] 70 1 _ rfl,by go_simp⟩,by show OwnOf Rep.val _ _ _ _ _ (key ++ []);rw [List.append_nil];exact OV5.out.ext ((Ext.refl w5).alloc _),fun x hx=> .inl (HUV5.out x hx),SM5.out.ext (((Ext.refl w5).alloc _).sub _),S5.out.ext (((Ext.refl w5).alloc _).sub _),FR5.out.ext ((Ext.refl w5).alloc _),HX5.out.alloc _⟩
   case round =>
    clear OV5 S5 FR5 HX5 HUV5 SM5
    obtain⟨j,pu,nu,cu,hj,rfl,rfl,HC,OU,HU,SM,SL,FR,HX⟩:=hrel
    by_cases hlt2:j<K
    ·have hjl:j<aggs.length:=by have:=HKK.out;omega
     have hdj:decide ((j:Int)<(K:Int))=true:=by simp;omega
     obtain⟨ba,oa,rfl⟩:=HPA.out (by decide) (by omega)
     obtain⟨b0,b1⟩:=agg_at HA.out j hjl
     replace b0:=HX.out.at b0
     replace b1:=HX.out.at b1
     have g0:=HX.out.at HG.out.1
     have g1:=HX.out.at HG.out.2
     obtain⟨hoy,hcl⟩:=HF.out _ (List.getElem_mem hjl)
     rw [←HMV.out]at hoy hcl
     have hstp:key++(aggs.take (j+1)).map (fun a=>F a mv)=(key++(aggs.take j).map (fun a=>F a mv)) ++ [F aggs[j] mv]:=by rw [List.take_succ_eq_append_getElem hjl,List.map_append,←List.append_assoc];rfl
     generalize F aggs[j] mv=y at hoy hcl hstp
     generalize aggs[j].arg=ar at b1 hcl
     generalize aggs[j].kind=ak at b0 hcl
     obtain⟨yk,yn,ys⟩:=y
     have HSTP:=Lib.hid hstp
     have HOKN:=Lib.hid hoy
     have HCL:=Lib.hid hcl
     clear hoy hcl hstp
     obtain⟨q0,q1,q2⟩:=HC.out
     obtain⟨xs,hxs⟩ : ∃x,x=key++(aggs.take j).map (fun a=>F a mv):=⟨_,rfl⟩
     rw [←hxs]at OU
     have hxl:xs.length≤2000:=by rw [hxs,List.length_append,List.length_map,List.length_take];have:=HKL2.out;omega
     have HXS:=Lib.hid hxs
     have B1:xs.length + [(⟨yk,yn,ys⟩:Val)].length≤maxLen:=by simp [maxLen];omega
     have B2:(xs.length + [(⟨yk,yn,ys⟩:Val)].length)*32≤140737488355328:=by simp;omega
     have e0:=cell_lt b0
     have e1:=cell_lt q0
     have e2:=cell_lt g0
     have HUL:=Lib.hid (show ∀x,(Value.slice pu nu cu).ownBlock=some x→x<wr.heap.size from fun x hx=>(OU.out.lt x hx).2)
     clear hxs hxl hjl
     go_wp2_with fail
     have k0:(wr.alloc (.cells #[.int .i64 ak,.int .i64 ar] 98)).cell? ⟨wr.heap.size,0,none⟩=some (.int .i64 ak):=by go_simp
     have k1:(wr.alloc (.cells #[.int .i64 ak,.int .i64 ar] 98)).cell? ⟨wr.heap.size,1,none⟩=some (.int .i64 ar):=by go_simp
     have x0:Ext wr (wr.alloc (.cells #[.int .i64 ak,.int .i64 ar] 98)):=(Ext.refl wr).alloc _
     generalize (wr.alloc (.cells #[.int .i64 ak,.int .i64 ar] 98))=W at k0 k1 x0 ⊢
     have HR4:=Lib.hid (show ∀k,(Value.slice pu nu cu).ownBlock=some k→w.heap.size≤k∧k≠w5.heap.size from fun k e=>by
      have h1:=HU.out k e
      have h3:=(OU.out.lt k e).1
      have h4:=HW45.out
      omega)
     have m0:=x0.at q0
     have m1:=x0.at g0
     have X0:=Lib.hid x0.drew
     have HAG:=Lib.hid (show ∀wx,Ext wr wx→Calls Tryz.prog 109 #[.slice pe ne ce,.agg #[.int .i64 ak,.int .i64 ar],.slice pm ng cm] wx fun e w'=>e = .returned (.agg #[.int .i64 yk,.int .i64 yn,.string ys])∧Ext wx w' from fun wx hwx=>HCL.out _ wx (HX.out.trans hwx) (SM.out.ext fun p u e=>hwx.at (on_some.1 e).2))
     have HQ:=Lib.hid (And.intro q0 q2)
     clear b0 b1 g1 q0 q2 g0 x0
     go_region_law (first
      |((with_reducible refine key_op 59 ?_);go_simp;refine(HAG.out _ (by first | with_reducible exact X0.out | exact X0.out)).mono ?_;rintro e w2 ⟨rfl,hx2⟩;have hy2:=Lib.hid (X0.out.trans hx2);have m2:=hy2.out.at HQ.out.1;have e9:=cell_lt m2)
      |((with_reducible refine key_op 61 ?_);(try simp only [Act.put,List.setIfInBounds_toArray,List.set_cons_zero,List.set_cons_succ]);refine step_append_all Rep.val (fun _=>True) rfl _ _ 68 rfl (w.heap.size+1) 73 i3 _ 32 Tryz.underlying68 hi3 hz30 hz31 hz32 rfl (by decide) (.slice pu nu cu) xs rfl (OU.out.ext (hy2.out.alloc _)) _ [⟨yk,yn,ys⟩] rfl (lit_new (R:=Rep.val) w2 [.int .i64 yk,.int .i64 yn,.string ys] 73 [[.int .i64 yk,.int .i64 yn,.string ys]] [⟨yk,yn,ys⟩] rfl (fun _=>⟨⟨rfl,HOKN.out⟩,trivial⟩) (by simp [maxLen]) (fun x hx=>Nat.lt_of_lt_of_le (HUL.out x hx) hy2.out.size)) B1 B2 (Nat.le_trans (by have:=(HX.out).size;have:=HW45.out;omega) (hy2.out.alloc _).size) ?_;intro v8 w8 own8 gr8 hg8;obtain⟨p8,n8,c8,rfl⟩ : ∃p n c,v8 = .slice p n c:=(by obtain⟨pz,cz,hz,_⟩:=own8.shapeL;exact⟨_,_,_,hz⟩);have m8:=cell_grown gr8 (((Ext.refl w2).alloc _).at m2) (fun k e=>(HR4.out k e).2);have f8:w8.frozen? ⟨w5.heap.size,0,none⟩=false:=(World.frozen?_of_block (w:=w2.alloc _) (gr8.block _ (cell_lt (((Ext.refl w2).alloc (.cells #[.int .i64 yk,.int .i64 yn,.string ys] 73)).at m2)) (fun e=>(HR4.out _ e.symm).2 rfl))).trans ((hy2.out.alloc _).unfrozen HQ.out.1 HQ.out.2)))
     all_goals
      have CH:Chg (fun k=>k=w5.heap.size∨(Value.slice pu nu cu).ownBlock=some k) wr (w8.setCell ⟨w5.heap.size,0,none⟩ (.slice p8 n8 c8)):=(((hy2.out.alloc (.cells #[.int .i64 yk,.int .i64 yn,.string ys] 73)).chg _).grown gr8 (fun k e=> .inl (.inr e))).setCell (.inl (.inl rfl)) _
      have HU8 : ∀x,(Value.slice p8 n8 c8).ownBlock=some x→(Q3≤x∧x<Q4)∨w5.heap.size<x:=fun x hx=>by
       rcases hg8 with h | h
       · exact HU.out x (h▸hx)
       · have h2:wr.heap.size≤x:=by
          have h1:=Option.some.inj (h.symm.trans hx)
          rw [←h1]
          exact(hy2.out.alloc _).size
         have h3:=cell_lt HQ.out.1
         omega
      have OU8:OwnOf Rep.val (w8.setCell ⟨w5.heap.size,0,none⟩ (.slice p8 n8 c8)) (fun _=>True) (w.heap.size+1) 73 (.slice p8 n8 c8) (key++(aggs.take (j+1)).map (fun a=>F a mv)):=by
       rw [HSTP.out,←HXS.out]
       exact own8.chg (fun _ _ _ _ h=>h) (chg_set w8 ⟨w5.heap.size,0,none⟩ _) (fun k h e=>by have:=HU8 k h;have:=HW45.out;simp only at e;omega)
      have Q8:(w8.setCell ⟨w5.heap.size,0,none⟩ (.slice p8 n8 c8)).cell? ⟨w5.heap.size,0,none⟩=some (.slice p8 n8 c8)∧(w8.setCell ⟨w5.heap.size,0,none⟩ (.slice p8 n8 c8)).cell? ⟨w5.heap.size,1,none⟩=some (.slice p5 lg.length c5)∧(w8.setCell ⟨w5.heap.size,0,none⟩ (.slice p8 n8 c8)).frozen? ⟨w5.heap.size,0,none⟩=false:=by
       have h1:=cell_grown gr8 ((hy2.out.alloc (.cells #[.int .i64 yk,.int .i64 yn,.string ys] 73)).at q1) (fun k e=>(HR4.out k e).2)
       exact⟨by go_simp,by rw [World.cell?_setCell_other _ _ _ _ (by simp)];exact h1,by go_simp⟩
      have hnC : ∀x,(Q4≤x∧x<w5.heap.size)→ ¬(x=w5.heap.size∨(Value.slice pu nu cu).ownBlock=some x):=fun x hx e=>by
       rcases e with e | e
       · omega
       · have:=HU.out x e;omega
      have hgC : ¬(w.heap.size=w5.heap.size∨(Value.slice pu nu cu).ownBlock=some w.heap.size):=fun e=>by
       rcases e with e | e
       · have:=HW45.out;omega
       · have:=(OU.out.lt _ e).1;omega
      have SL8:=Lib.hid (SL.out.chg CH hnC)
      have SM8:=Lib.hid (SM.out.chg CH (fun x hx e=>by
       rcases e with e | e
       · have:=HW45.out;have:=HQ34.out;omega
       · have:=HU.out x e;have:=HW45.out;have:=HQ34.out;omega))
      have FR8:=Lib.hid (FR.out.chg CH hgC)
      have HX8:=Lib.hid (show Ext w (w8.setCell ⟨w5.heap.size,0,none⟩ (.slice p8 n8 c8))from CH.below HX.out (fun k e=>by
       rcases e with e | e
       · have:=HW45.out;omega
       · exact Nat.le_of_succ_le (OU.out.lt k e).1))
      have HU9:=Lib.hid HU8
      have OU9:=Lib.hid OU8
      have Q9:=Lib.hid Q8
      clear CH HU8 OU8 Q8 hnC hgC own8 gr8 hg8 m8 f8 hy2 m2 q1
      go_wp2_with fail
      go_roundg (K - (j+1))
      case measure=>omega
      case rel=>exact⟨j+1,p8,n8,c8,by omega,rfl,by go_num,Q9.out,OU9.out,HU9.out,SM8.out,SL8.out,FR8.out,HX8.out⟩
    ·have hjK:j=K:=by omega
     have hdj:decide ((j:Int)<(K:Int))=false:=by simp;omega
     subst hjK
     obtain⟨q0,q1,q2⟩:=HC.out
     obtain⟨⟨z0,f0⟩,g0⟩:=FR.out 0 (by omega)
     obtain⟨⟨z1,f1⟩,g1⟩:=FR.out 1 (by omega)
     have e0:=cell_lt f0
     have e1:=cell_lt q0
     clear hlt2
     go_wp2_with fail
     have CH:Chg (fun k=>k=w.heap.size) wr ((wr.setCell ⟨w.heap.size,0,none⟩ (.slice pu nu cu)).setCell ⟨w.heap.size,1,none⟩ (.slice p5 lg.length c5)):=(chg_set wr ⟨w.heap.size,0,none⟩ _).setCell (p:=⟨w.heap.size,1,none⟩) (.inl rfl) _
     refine bodyPost_ret (v:= .tuple #[.agg #[.slice pu nu cu,.slice p5 lg.length c5],.bool (decide (0<ng))]) (by simp [results,Tryz.results56,go_sem,f0,f1]) rfl ⟨_,_,by rw [←HMV.out,←HNG.out],?_,?_,CH.below HX.out fun k e=>Nat.le_of_eq e.symm⟩
     ·have h1:=((OU.out.chg (fun _ _ _ _ h=>h) CH (fun k h e=>by have:=(OU.out.lt k h).1;omega)).fresh (fun _ _ _ _ h=>h)).ext (on_mono _ (T:=since w) fun k _ hk=>Nat.le_of_succ_le hk)
      show SliceOf Rep.val _ _ (key++aggs.map (fun a=>F a (memV ms t)))
      rw [←HMV.out]
      rw [HKK.out,List.take_length]at h1
      exact h1
     ·have h1:=(SL.out.chg CH (fun k hk e=>by have:=HW45.out;omega)).ext (on_mono _ (T:=since w) fun k _ hk=>Nat.le_trans (Nat.le_of_succ_le HW45.out.1) hk.1)
      show SliceOf Rep.int _ _ (mergeL (memL ms t) [])
      rw [←HML.out,←HLG.out]
      exact h1
end Go.Proofs.YtkddkbpoefidpaaGreatDoor
namespace Go.Proofs.YtkddkbpoefidpaaGreatDoor
open Go.RowKit Go.Maps
def aggsL (c:Int):List AggI:= [⟨1,0⟩,⟨2,0⟩,⟨3,c⟩,⟨4,c⟩]
def aggF (a:AggI) (vss:List (List Val)):Val:=aggVal a.kind a.arg vss
def allV (c:Int) (vss:List (List Val)):List Val:=(aggsL c).map fun a=>aggF a vss
theorem ok_sumV (xs:List Val):okVal (sumV xs):=by
 unfold sumV
 split
 ·rename_i h
  exact⟨by simp [intVal],by simp only [intVal];omega,by simp [intVal,maxLen]⟩
 ·exact ok_nV
theorem tups_ok {h:View} {v:Value} {l:List Tup} (k:SliceOf Rep.tup h v l) : ∀t∈l,∀x∈t.vals,okVal x:=by
 intro t ht
 obtain⟨i,hi,rfl⟩:=List.getElem_of_mem ht
 obtain⟨p,cap,rfl,_,_,hp⟩:=k.form
 obtain⟨b,o,rfl⟩:=hp (by decide) (by omega)
 obtain⟨_,_,_,_,_,_,g,_⟩:=tup_at k i hi
 exact vals_ok g
end Go.Proofs.YtkddkbpoefidpaaGreatDoor
namespace Go.Proofs.YtkddkbpoefidpaaGreatDoor
open Go.RowKit
def doneL (a b:List Int) (k:Nat):List Int:=if k=0 then []else if k=1 then a else a++b
set_option maxRecDepth 100000 in
set_option maxHeartbeats 4000000 in
theorem ref_mergeLineage (va vb:Value) (a b:List Int) (w:World) (ha:SliceOf Rep.int w.cell? va a) (hb:SliceOf Rep.int w.cell? vb b) (fa:a.length≤1048576) (fb:b.length≤1048576) :
  Calls Tryz.prog 116 #[va,vb] w fun e w'=> ∃v',e = .returned v'∧SliceOf Rep.int (on w' (since w)) v' (mergeL a b)∧Ext w w':=by
 obtain⟨i0,hi,hz0,hz1,hz2⟩:=info_parts info_ints
 have HA:=Lib.hid ha
 have HB:=Lib.hid hb
 obtain⟨pa,ca,rfl,_⟩:=ha.form
 obtain⟨pb,cb,rfl,_⟩:=hb.form
 clear ha hb
 have hsel : ∀k:Nat,k<2→ ∃pl cl,∃l:List Int,(∀W,(Instr.index 239 (.agg #[.slice pa a.length ca,.slice pb b.length cb]) (.int .i64 k)).run Tryz.prog W = .ok (.slice pl l.length cl) W)∧SliceOf Rep.int w.cell? (.slice pl l.length cl) l∧doneL a b (k+1)=doneL a b k++l∧l.length≤1048576∧(doneL a b k).length≤1048576:=by
  intro k hk
  by_cases h0:k=0
  ·subst h0
   exact⟨pa,ca,a,fun W=>by kernel_rfl,HA.out,by simp [doneL],fa,by simp [doneL]⟩
  ·have:k=1:=by omega
   subst this
   exact⟨pb,cb,b,fun W=>by kernel_rfl,HB.out,by simp [doneL],fb,by simpa [doneL] using fa⟩
 have HSEL:=Lib.hid hsel
 clear hsel
 go_enter Tryz.func116,Tryz.ntmps116
 go_wp2_with fail
 go_loopg [5,14] 2 (fun gk v i wr=> ∃(k:Nat) (o:List Int),k≤2∧gk=2 - k∧i = .int .i64 k∧OwnOf Rep.int wr (fun _=>True) w.heap.size 3 v o∧AscOf o (doneL a b k)∧Ext w wr)
 case atStart=>exact⟨0,[],by omega,rfl,rfl,OwnOf.nil _ _ _ _ _,by simpa [doneL] using AscOf.nil,Ext.refl w⟩
 case round =>
  obtain⟨kk,o0,hkk,rfl,rfl,hown0,hasc0,hx0⟩:=hrel
  have HO0:=Lib.hid hown0
  have HA0:=Lib.hid hasc0
  obtain⟨q0,c0,rfl,_⟩:=hown0.slice.form
  obtain⟨wA,rfl⟩ : ∃wA:World,wA=wr:=⟨_,rfl⟩
  clear hown0 hasc0
  by_cases hkl:kk<2
  ·obtain⟨pl,cl,l,hidx,hl,hdone,hl1,hd1⟩:=HSEL.out kk hkl
   have HL:=Lib.hid hl
   have HD:=Lib.hid hdone
   obtain⟨_,_,he,hcl,hcm,hpl⟩:=hl.form
   injection he with he1 _ he2
   subst he1 he2
   unfold maxLen at hcm
   have hlt2:decide ((kk:Int)<2)=true:=by simp;omega
   clear hl hdone
   go_wp2_with fail
   go_loopg [5,19] l.length (fun gk v i wr=> ∃(j:Nat) (o:List Int),j≤l.length∧gk=l.length - j∧i = .int .i64 j∧OwnOf Rep.int wr (fun _=>True) w.heap.size 3 v o∧AscOf o (doneL a b kk++l.take j)∧Ext w wr)
   case atStart=>exact⟨0,o0,by omega,rfl,rfl,HO0.out,by simpa using HA0.out,hx0⟩
   case round =>
    obtain⟨j,o,hj,rfl,rfl,hown,hasc,hx⟩:=hrel
    have holen:=hasc.2.2
    rw [List.length_append,List.length_take]at holen
    have HO:=Lib.hid hown
    have HASC0:=Lib.hid hasc
    have hform:(u5 = .slice none 0 0∧o = [])∨ ∃g cap,u5 = .slice (some ⟨g,0,none⟩) o.length cap∧o.length≤cap∧cap≤maxLen:=by
     obtain⟨css,h1,h2⟩:=hown
     rcases h2.2 with ⟨hv,h0⟩ | ⟨g,cap,cur,hv,_,_,h3,h4,_⟩
     ·exact .inl ⟨hv,List.eq_nil_of_length_eq_zero h0⟩
     ·exact .inr ⟨g,cap,hv,h3,h4⟩
    by_cases hlt:j<l.length
    ·have hd:decide ((j:Int)<(l.length:Int))=true:=by simp;omega
     have htk:=List.take_succ_eq_append_getElem hlt
     obtain⟨bl,ol,rfl⟩:=hpl (by decide) (by omega)
     obtain⟨e1,hr⟩:=int_at HL.out j hlt
     replace e1:=hx.at e1
     have hins:=hasc.ins l[j]
     have hold:=hasc.old l[j]
     generalize l[j]=x at htk e1 hr hins hold
     have HTK:=Lib.hid htk
     have HR:=Lib.hid hr
     have HINS:=Lib.hid hins
     have HOLD:=Lib.hid hold
     clear htk hr hasc hins hold
     have hsort:=HASC0.out.1
     have HSO:=Lib.hid hsort
     clear hsort
     rcases hform with ⟨rfl,hoe⟩ | ⟨g,cap,rfl,hcap1,hcap2⟩
     ·have HOE:=Lib.hid hoe
      have holn:o.length=0:=by rw [hoe];rfl
      have HOL:=Lib.hid holn
      clear hoe holn
      go_wp2_with fail
      go_loopg [10] 1 (fun gk i wq=>gk=1∧i = .int .i64 0∧wr=wq)
      case atStart=>exact⟨rfl,rfl,rfl⟩
      case round =>
       obtain⟨rfl,rfl,rfl⟩:=hrel
       have los:SliceOf Rep.int wr.cell? (.slice none 0 0) (o.take 0):=by rw [List.take_zero];exact SliceOf.nil _ _
       have his:SliceOf Rep.int wr.cell? (.slice none 0 0) (o.drop 0):=by rw [HOE.out];exact SliceOf.nil _ _
       have LOS:=Lib.hid los
       have HIS:=Lib.hid his
       have hasc:AscOf (o.take 0 ++ [x]++o.drop 0) (doneL a b kk++l.take j ++ [x]):=HINS.out 0 (by omega) (fun t _ h=>by omega) (fun h=>by rw [HOE.out]at h;simp at h)
       have HASC:=Lib.hid hasc
       have B1:([]:List Int).length+(o.take 0).length≤maxLen:=by simp [maxLen] <;> omega
       have B2:(([]:List Int).length+(o.take 0).length)*8≤140737488355328:=by simp <;> omega
       have B3:([]++o.take 0).length + [x].length≤maxLen:=by simp [maxLen] <;> omega
       have B4:(([]++o.take 0).length + [x].length)*8≤140737488355328:=by simp <;> omega
       have B5:([]++o.take 0 ++ [x]).length+(o.drop 0).length≤maxLen:=by simp [maxLen] <;> omega
       have B6:(([]++o.take 0 ++ [x]).length+(o.drop 0).length)*8≤140737488355328:=by simp <;> omega
       clear los his hasc
       skip
       go_wp2_with fail
       go_region_law (first
        |((with_reducible refine key_op 52 ?_);(try simp only [Act.put,List.getElem_toArray,List.getElem_cons_zero,List.getElem_cons_succ,List.setIfInBounds_toArray,List.set_cons_zero,List.set_cons_succ]);refine step_append_all Rep.int (fun _=>True) rfl _ _ 24 rfl wr.heap.size 3 i0 _ 8 Tryz.underlying24 hi hz0 hz1 hz2 rfl (by decide) (.slice none 0 0) ([]:List Int) rfl (OwnOf.nil _ _ _ _ _) (.slice none 0 0) (o.take 0) rfl (by first | with_reducible exact LOS.out.away flat_int (Ext.refl wr).drew (own_nil _) | with_reducible exact LOS.out.away flat_int ((Ext.refl wr).alloc _).drew (own_nil _)) B1 B2 (by first | with_reducible exact(Ext.refl wr).drew.size | with_reducible exact((Ext.refl wr).alloc _).drew.size) ?_;intro v1 w1 own1 gr1 at1;have x1:Ext wr w1:=(by first | with_reducible exact Ext.grownNew (Ext.refl wr).drew gr1 (own_nil _) | with_reducible exact Ext.grownNew ((Ext.refl wr).alloc _).drew gr1 (own_nil _)))
        |((with_reducible refine key_op 55 ?_);(try simp only [Act.put,List.setIfInBounds_toArray,List.set_cons_zero,List.set_cons_succ]);refine step_append_all Rep.int (fun _=>True) rfl _ _ 24 rfl wr.heap.size 3 i0 _ 8 Tryz.underlying24 hi hz0 hz1 hz2 rfl (by decide) v1 ([]++o.take 0) rfl (by first | with_reducible exact own1 | with_reducible exact own1.ext ((Ext.refl _).alloc _)) _ [x] rfl (by first | exact lone_new HR.out own1 | exact lone_old HR.out gr1 rfl at1) B3 B4 (by first | with_reducible exact x1.size | with_reducible exact(x1.alloc _).size) ?_;intro v2 w2 own2 gr2 at2;have x2:Ext wr w2:=(by first | with_reducible exact Ext.grownNew x1 gr2 own1.base | with_reducible exact Ext.grownNew (x1.alloc _) gr2 own1.base))
        |((with_reducible refine key_op 59 ?_);(try simp only [Act.put,List.setIfInBounds_toArray,List.set_cons_zero,List.set_cons_succ]);refine step_append_all Rep.int (fun _=>True) rfl _ _ 24 rfl wr.heap.size 3 i0 _ 8 Tryz.underlying24 hi hz0 hz1 hz2 rfl (by decide) v2 ([]++o.take 0 ++ [x]) rfl own2 (.slice none 0 0) (o.drop 0) rfl (HIS.out.away flat_int x2 own2.base) B5 B6 x2.size ?_;intro v3 w3 own3 gr3 at3;have x3:Ext wr w3:=Ext.grownNew x2 gr3 own2.base))
       all_goals
        have R3:=own3.weak (T:=fun _=>True) (fun _ _ h=>h) hx.size
        have X3:=hx.trans x3
        rw [List.nil_append]at R3
        have H3:=Lib.hid R3
        clear R3 own1 own2 own3 gr1 gr2 gr3 at1 at2 at3 x1 x2 x3 hx HO LOS HIS
        go_wp2_with fail
        go_roundg (l.length - (j+1))
        case measure=>omega
        case rel=>exact⟨j+1,_,by omega,rfl,by go_num,H3.out,by rw [HTK.out,←List.append_assoc];exact HASC.out,X3⟩
     ·unfold maxLen at hcap2
      go_wp2_with fail
      go_loopg [10] o.length (fun gk i wq=> ∃k:Nat,k≤o.length∧gk=o.length - k∧i = .int .i64 k∧(∀(t:Nat) (ht:t<o.length),t<k→o[t]<x)∧wr=wq)
      case atStart=>exact⟨0,by omega,rfl,rfl,fun t _ h=>by omega,rfl⟩
      case round =>
       obtain⟨k,hk,rfl,rfl,hall,rfl⟩:=hrel
       have HALL:=Lib.hid hall
       clear hall
       by_cases hkl:k<o.length
       ·obtain⟨e2,_⟩:=int_at HO.out.slice k hkl
        rw [Nat.zero_add]at e2
        generalize hz:o[k]=z at e2
        have HZ:=Lib.hid hz
        clear hz
        have hd2:decide ((k:Int)<(o.length:Int))=true:=by simp;omega
        have hd3:(k:Int)<(o.length:Int):=by omega
        have hd5:((k:Int)==(o.length:Int))=false:=by simp;omega
        by_cases hzx:z<x
        ·have hd4:decide (z<x)=true:=by simp [hzx]
         go_wp2_with fail
         go_roundg (o.length - (k+1))
         case measure=>omega
         case rel=>exact⟨k+1,by omega,rfl,by go_num,fun t ht h=>by
           by_cases htk:t<k
           ·exact HALL.out t ht htk
           ·have:t=k:=by omega
            subst this
            rw [HZ.out];exact hzx,rfl⟩
        ·have hd4:decide (z<x)=false:=by simp;omega
         by_cases hze:z=x
         · have hd6:(z != x)=false:=by simp [hze]
           have HOLD2:=Lib.hid (HOLD.out k hkl (by rw [HZ.out];exact hze))
           clear hze
           go_wp2_with fail
           go_roundg (l.length - (j+1))
           case measure=>omega
           case rel=>exact⟨j+1,o,by omega,rfl,by go_num,HO.out,by rw [HTK.out,←List.append_assoc];exact HOLD2.out,hx⟩
         · have hd6:(z != x)=true:=by simp [hze]
           have los:SliceOf Rep.int wr.cell? (.slice (some ⟨g,0,none⟩) k cap) (o.take k):=HO.out.slice.takeV k (by omega)
           have his:SliceOf Rep.int wr.cell? (.slice (some ⟨g,k,none⟩) (o.length - k) (cap - k)) (o.drop k):=by have h:=HO.out.slice.dropV k (by omega);rwa [show Rep.int.size=1 from rfl,Nat.mul_one,Nat.zero_add]at h
           have LOS:=Lib.hid los
           have HIS:=Lib.hid his
           have hasc:AscOf (o.take k ++ [x]++o.drop k) (doneL a b kk++l.take j ++ [x]):=HINS.out k (by omega) HALL.out (fun h=>by rw [HZ.out];omega)
           have HASC:=Lib.hid hasc
           have B1:([]:List Int).length+(o.take k).length≤maxLen:=by simp [maxLen] <;> omega
           have B2:(([]:List Int).length+(o.take k).length)*8≤140737488355328:=by simp <;> omega
           have B3:([]++o.take k).length + [x].length≤maxLen:=by simp [maxLen] <;> omega
           have B4:(([]++o.take k).length + [x].length)*8≤140737488355328:=by simp <;> omega
           have B5:([]++o.take k ++ [x]).length+(o.drop k).length≤maxLen:=by simp [maxLen] <;> omega
           have B6:(([]++o.take k ++ [x]).length+(o.drop k).length)*8≤140737488355328:=by simp <;> omega
           clear los his hasc
           have hkc:k≤cap:=by omega
           have hkc2 : ¬cap=k:=by omega
           have hkc3 : ¬(k:Int)=(cap:Int):=by omega
           go_wp2_with fail
           go_region_law (first
            |((with_reducible refine key_op 52 ?_);(try simp only [Act.put,List.getElem_toArray,List.getElem_cons_zero,List.getElem_cons_succ,List.setIfInBounds_toArray,List.set_cons_zero,List.set_cons_succ]);refine step_append_all Rep.int (fun _=>True) rfl _ _ 24 rfl wr.heap.size 3 i0 _ 8 Tryz.underlying24 hi hz0 hz1 hz2 rfl (by decide) (.slice none 0 0) ([]:List Int) rfl (OwnOf.nil _ _ _ _ _) (.slice (some ⟨g,0,none⟩) k cap) (o.take k) rfl (by first | with_reducible exact LOS.out.away flat_int (Ext.refl wr).drew (own_nil _) | with_reducible exact LOS.out.away flat_int ((Ext.refl wr).alloc _).drew (own_nil _)) B1 B2 (by first | with_reducible exact(Ext.refl wr).drew.size | with_reducible exact((Ext.refl wr).alloc _).drew.size) ?_;intro v1 w1 own1 gr1 at1;have x1:Ext wr w1:=(by first | with_reducible exact Ext.grownNew (Ext.refl wr).drew gr1 (own_nil _) | with_reducible exact Ext.grownNew ((Ext.refl wr).alloc _).drew gr1 (own_nil _)))
            |((with_reducible refine key_op 55 ?_);(try simp only [Act.put,List.setIfInBounds_toArray,List.set_cons_zero,List.set_cons_succ]);refine step_append_all Rep.int (fun _=>True) rfl _ _ 24 rfl wr.heap.size 3 i0 _ 8 Tryz.underlying24 hi hz0 hz1 hz2 rfl (by decide) v1 ([]++o.take k) rfl (by first | with_reducible exact own1 | with_reducible exact own1.ext ((Ext.refl _).alloc _)) _ [x] rfl (by first | exact lone_new HR.out own1 | exact lone_old HR.out gr1 rfl at1) B3 B4 (by first | with_reducible exact x1.size | with_reducible exact(x1.alloc _).size) ?_;intro v2 w2 own2 gr2 at2;have x2:Ext wr w2:=(by first | with_reducible exact Ext.grownNew x1 gr2 own1.base | with_reducible exact Ext.grownNew (x1.alloc _) gr2 own1.base))
            |((with_reducible refine key_op 59 ?_);(try simp only [Act.put,List.setIfInBounds_toArray,List.set_cons_zero,List.set_cons_succ]);refine step_append_all Rep.int (fun _=>True) rfl _ _ 24 rfl wr.heap.size 3 i0 _ 8 Tryz.underlying24 hi hz0 hz1 hz2 rfl (by decide) v2 ([]++o.take k ++ [x]) rfl own2 (.slice (some ⟨g,k,none⟩) (o.length - k) (cap - k)) (o.drop k) rfl (HIS.out.away flat_int x2 own2.base) B5 B6 x2.size ?_;intro v3 w3 own3 gr3 at3;have x3:Ext wr w3:=Ext.grownNew x2 gr3 own2.base))
           all_goals
            have R3:=own3.weak (T:=fun _=>True) (fun _ _ h=>h) hx.size
            have X3:=hx.trans x3
            rw [List.nil_append]at R3
            have H3:=Lib.hid R3
            clear R3 own1 own2 own3 gr1 gr2 gr3 at1 at2 at3 x1 x2 x3 hx HO LOS HIS
            go_wp2_with fail
            go_roundg (l.length - (j+1))
            case measure=>omega
            case rel=>exact⟨j+1,_,by omega,rfl,by go_num,H3.out,by rw [HTK.out,←List.append_assoc];exact HASC.out,X3⟩
       ·have:k=o.length:=by omega
        have hd2:decide ((k:Int)<(o.length:Int))=false:=by simp;omega
        have hd5:((k:Int)==(o.length:Int))=true:=by simp;omega
        have hkn:k=o.length:=this
        have HKN:=Lib.hid hkn
        clear this hkn
        by_cases hcu:k=cap
        ·subst hcu
         have los:SliceOf Rep.int wr.cell? (.slice (some ⟨g,0,none⟩) k k) (o.take k):=HO.out.slice.takeV k (by omega)
         have his:SliceOf Rep.int wr.cell? (.slice (some ⟨g,0,none⟩) 0 0) (o.drop k):=by rw [List.drop_eq_nil_of_le (by omega)];exact⟨[],trivial,.inr ⟨_,0,rfl,Nat.le_refl _,by simp [maxLen],.inl rfl⟩⟩
         have LOS:=Lib.hid los
         have HIS:=Lib.hid his
         have hasc:AscOf (o.take k ++ [x]++o.drop k) (doneL a b kk++l.take j ++ [x]):=HINS.out k (by omega) HALL.out (fun h=>by omega)
         have HASC:=Lib.hid hasc
         have B1:([]:List Int).length+(o.take k).length≤maxLen:=by simp [maxLen] <;> omega
         have B2:(([]:List Int).length+(o.take k).length)*8≤140737488355328:=by simp <;> omega
         have B3:([]++o.take k).length + [x].length≤maxLen:=by simp [maxLen] <;> omega
         have B4:(([]++o.take k).length + [x].length)*8≤140737488355328:=by simp <;> omega
         have B5:([]++o.take k ++ [x]).length+(o.drop k).length≤maxLen:=by simp [maxLen] <;> omega
         have B6:(([]++o.take k ++ [x]).length+(o.drop k).length)*8≤140737488355328:=by simp <;> omega
         clear los his hasc
         have hkc:k≤k:=Nat.le_refl k
         go_wp2_with fail
         go_region_law (first
           |((with_reducible refine key_op 52 ?_);(try simp only [Act.put,List.getElem_toArray,List.getElem_cons_zero,List.getElem_cons_succ,List.setIfInBounds_toArray,List.set_cons_zero,List.set_cons_succ]);refine step_append_all Rep.int (fun _=>True) rfl _ _ 24 rfl wr.heap.size 3 i0 _ 8 Tryz.underlying24 hi hz0 hz1 hz2 rfl (by decide) (.slice none 0 0) ([]:List Int) rfl (OwnOf.nil _ _ _ _ _) (.slice (some ⟨g,0,none⟩) k k) (o.take k) rfl (by first | with_reducible exact LOS.out.away flat_int (Ext.refl wr).drew (own_nil _) | with_reducible exact LOS.out.away flat_int ((Ext.refl wr).alloc _).drew (own_nil _)) B1 B2 (by first | with_reducible exact(Ext.refl wr).drew.size | with_reducible exact((Ext.refl wr).alloc _).drew.size) ?_;intro v1 w1 own1 gr1 at1;have x1:Ext wr w1:=(by first | with_reducible exact Ext.grownNew (Ext.refl wr).drew gr1 (own_nil _) | with_reducible exact Ext.grownNew ((Ext.refl wr).alloc _).drew gr1 (own_nil _)))
           |((with_reducible refine key_op 55 ?_);(try simp only [Act.put,List.setIfInBounds_toArray,List.set_cons_zero,List.set_cons_succ]);refine step_append_all Rep.int (fun _=>True) rfl _ _ 24 rfl wr.heap.size 3 i0 _ 8 Tryz.underlying24 hi hz0 hz1 hz2 rfl (by decide) v1 ([]++o.take k) rfl (by first | with_reducible exact own1 | with_reducible exact own1.ext ((Ext.refl _).alloc _)) _ [x] rfl (by first | exact lone_new HR.out own1 | exact lone_old HR.out gr1 rfl at1) B3 B4 (by first | with_reducible exact x1.size | with_reducible exact(x1.alloc _).size) ?_;intro v2 w2 own2 gr2 at2;have x2:Ext wr w2:=(by first | with_reducible exact Ext.grownNew x1 gr2 own1.base | with_reducible exact Ext.grownNew (x1.alloc _) gr2 own1.base))
           |((with_reducible refine key_op 59 ?_);(try simp only [Act.put,List.setIfInBounds_toArray,List.set_cons_zero,List.set_cons_succ]);refine step_append_all Rep.int (fun _=>True) rfl _ _ 24 rfl wr.heap.size 3 i0 _ 8 Tryz.underlying24 hi hz0 hz1 hz2 rfl (by decide) v2 ([]++o.take k ++ [x]) rfl own2 (.slice (some ⟨g,0,none⟩) 0 0) (o.drop k) rfl (HIS.out.away flat_int x2 own2.base) B5 B6 x2.size ?_;intro v3 w3 own3 gr3 at3;have x3:Ext wr w3:=Ext.grownNew x2 gr3 own2.base))
         all_goals
           have R3:=own3.weak (T:=fun _=>True) (fun _ _ h=>h) hx.size
           have X3:=hx.trans x3
           rw [List.nil_append]at R3
           have H3:=Lib.hid R3
           clear R3 own1 own2 own3 gr1 gr2 gr3 at1 at2 at3 x1 x2 x3 hx HO LOS HIS
           go_wp2_with fail
           go_roundg (l.length - (j+1))
           case measure=>omega
           case rel=>exact⟨j+1,_,by omega,rfl,by go_num,H3.out,by rw [HTK.out,←List.append_assoc];exact HASC.out,X3⟩
        ·have hcu2 : ¬(k:Int)=(cap:Int):=by omega
         have los:SliceOf Rep.int wr.cell? (.slice (some ⟨g,0,none⟩) k cap) (o.take k):=HO.out.slice.takeV k (by omega)
         have his:SliceOf Rep.int wr.cell? (.slice (some ⟨g,k,none⟩) (o.length - k) (cap - k)) (o.drop k):=by have h:=HO.out.slice.dropV k (by omega);rwa [show Rep.int.size=1 from rfl,Nat.mul_one,Nat.zero_add]at h
         have LOS:=Lib.hid los
         have HIS:=Lib.hid his
         have hasc:AscOf (o.take k ++ [x]++o.drop k) (doneL a b kk++l.take j ++ [x]):=HINS.out k (by omega) HALL.out (fun h=>by omega)
         have HASC:=Lib.hid hasc
         have B1:([]:List Int).length+(o.take k).length≤maxLen:=by simp [maxLen] <;> omega
         have B2:(([]:List Int).length+(o.take k).length)*8≤140737488355328:=by simp <;> omega
         have B3:([]++o.take k).length + [x].length≤maxLen:=by simp [maxLen] <;> omega
         have B4:(([]++o.take k).length + [x].length)*8≤140737488355328:=by simp <;> omega
         have B5:([]++o.take k ++ [x]).length+(o.drop k).length≤maxLen:=by simp [maxLen] <;> omega
         have B6:(([]++o.take k ++ [x]).length+(o.drop k).length)*8≤140737488355328:=by simp <;> omega
         clear los his hasc
         have hkc:k≤cap:=by omega
         have hkc2 : ¬cap=k:=by omega
         have hkc3 : ¬(k:Int)=(cap:Int):=by omega
         go_wp2_with fail
         go_region_law (first
           |((with_reducible refine key_op 52 ?_);(try simp only [Act.put,List.getElem_toArray,List.getElem_cons_zero,List.getElem_cons_succ,List.setIfInBounds_toArray,List.set_cons_zero,List.set_cons_succ]);refine step_append_all Rep.int (fun _=>True) rfl _ _ 24 rfl wr.heap.size 3 i0 _ 8 Tryz.underlying24 hi hz0 hz1 hz2 rfl (by decide) (.slice none 0 0) ([]:List Int) rfl (OwnOf.nil _ _ _ _ _) (.slice (some ⟨g,0,none⟩) k cap) (o.take k) rfl (by first | with_reducible exact LOS.out.away flat_int (Ext.refl wr).drew (own_nil _) | with_reducible exact LOS.out.away flat_int ((Ext.refl wr).alloc _).drew (own_nil _)) B1 B2 (by first | with_reducible exact(Ext.refl wr).drew.size | with_reducible exact((Ext.refl wr).alloc _).drew.size) ?_;intro v1 w1 own1 gr1 at1;have x1:Ext wr w1:=(by first | with_reducible exact Ext.grownNew (Ext.refl wr).drew gr1 (own_nil _) | with_reducible exact Ext.grownNew ((Ext.refl wr).alloc _).drew gr1 (own_nil _)))
           |((with_reducible refine key_op 55 ?_);(try simp only [Act.put,List.setIfInBounds_toArray,List.set_cons_zero,List.set_cons_succ]);refine step_append_all Rep.int (fun _=>True) rfl _ _ 24 rfl wr.heap.size 3 i0 _ 8 Tryz.underlying24 hi hz0 hz1 hz2 rfl (by decide) v1 ([]++o.take k) rfl (by first | with_reducible exact own1 | with_reducible exact own1.ext ((Ext.refl _).alloc _)) _ [x] rfl (by first | exact lone_new HR.out own1 | exact lone_old HR.out gr1 rfl at1) B3 B4 (by first | with_reducible exact x1.size | with_reducible exact(x1.alloc _).size) ?_;intro v2 w2 own2 gr2 at2;have x2:Ext wr w2:=(by first | with_reducible exact Ext.grownNew x1 gr2 own1.base | with_reducible exact Ext.grownNew (x1.alloc _) gr2 own1.base))
           |((with_reducible refine key_op 59 ?_);(try simp only [Act.put,List.setIfInBounds_toArray,List.set_cons_zero,List.set_cons_succ]);refine step_append_all Rep.int (fun _=>True) rfl _ _ 24 rfl wr.heap.size 3 i0 _ 8 Tryz.underlying24 hi hz0 hz1 hz2 rfl (by decide) v2 ([]++o.take k ++ [x]) rfl own2 (.slice (some ⟨g,k,none⟩) (o.length - k) (cap - k)) (o.drop k) rfl (HIS.out.away flat_int x2 own2.base) B5 B6 x2.size ?_;intro v3 w3 own3 gr3 at3;have x3:Ext wr w3:=Ext.grownNew x2 gr3 own2.base))
         all_goals
           have R3:=own3.weak (T:=fun _=>True) (fun _ _ h=>h) hx.size
           have X3:=hx.trans x3
           rw [List.nil_append]at R3
           have H3:=Lib.hid R3
           clear R3 own1 own2 own3 gr1 gr2 gr3 at1 at2 at3 x1 x2 x3 hx HO LOS HIS
           go_wp2_with fail
           go_roundg (l.length - (j+1))
           case measure=>omega
           case rel=>exact⟨j+1,_,by omega,rfl,by go_num,H3.out,by rw [HTK.out,←List.append_assoc];exact HASC.out,X3⟩
    ·have:j=l.length:=by omega
     subst this
     rw [List.take_length,←HD.out]at hasc
     have HASC:=Lib.hid hasc
     clear hasc
     rcases hform with ⟨rfl,rfl⟩ | ⟨g,cap,rfl,hcap1,hcap2⟩
     all_goals
      go_wp2_with fail
      go_roundg (2 - (kk+1))
      case measure=>omega
      case rel=>exact⟨kk+1,_,by omega,rfl,by go_num,HO.out,HASC.out,hx⟩
  ·have:kk=2:=by omega
   subst this
   go_wp2_with fail
   go_ret
   exact⟨_,rfl,by rw [←AscOf.merge (a:=a) (b:=b) (by simpa [doneL] using HA0.out)];exact HO0.out.fresh flat_int,hx0⟩
end Go.Proofs.YtkddkbpoefidpaaGreatDoor
namespace Go.Proofs.YtkddkbpoefidpaaGreatDoor
open Go.RowKit
def runL (c:Int→Nat) (l:List Int) (q:List Int×List Per):List Int×List Per:=l.foldl (fun q x=>levStep (c x) x q) q
theorem levStep_same (x:Int) (q:List Int×List Per):levStep q.1.length x q=q:=by
 unfold levStep
 rw [List.take_length,Nat.sub_self,List.drop_length]
 simp
theorem levOf_run {P:List Int} (f:Nat→Nat) (c:Int→Nat) (h : ∀i,i<P.length→f i=c P[i]!) (k:Nat) (hk:k≤P.length):levOf P f k=runL c (P.take k) ([],[]):=by
 induction k with
 |zero=>rfl
 |succ k ih =>
  have e:runL c (P.take (k+1)) ([],[])=levStep (c P[k]!) P[k]! (runL c (P.take k) ([],[])):=by
   unfold runL
   rw [List.take_succ_eq_append_getElem (by omega),List.foldl_append,getElem!_pos P k (by omega)]
   rfl
  rw [e,←ih (by omega),←h k (by omega)]
  rfl
def Still (c:Int→Nat) (p:Int→Bool):Nat→List Int→Prop
 |_,[]=>True
 |d,x::l=>(p x=false→c x=d)∧Still c p (c x) l
theorem run_still (c:Int→Nat) (p:Int→Bool) : ∀(l:List Int) (q:List Int×List Per),Still c p q.1.length l→runL c l q=runL c (l.filter p) q:=by
 intro l
 induction l with
 |nil=>intro q _;rfl
 |cons x l ih =>
  intro q h
  obtain⟨h1,h2⟩:=h
  have hs:runL c (x::l) q=runL c l (levStep (c x) x q):=rfl
  rw [hs]
  cases hp:p x with
  |true =>
   rw [List.filter_cons_of_pos hp,ih _ (by rw [levStep_len];exact h2)]
   rfl
  |false =>
   have e:=h1 hp
   rw [List.filter_cons_of_neg (by simp [hp]),e,levStep_same]
   exact ih q (by rw [←e];exact h2)
theorem bnd_mem {l:List Tup} {t:Tup} (ht:t∈l) (hv:validT t=true):t.from_∈bnd l∧t.to_∈bnd l:=by
 unfold bnd
 constructor
 ·exact List.mem_flatMap.2 ⟨t,ht,by rw [if_pos hv];simp⟩
 ·exact List.mem_flatMap.2 ⟨t,ht,by rw [if_pos hv];simp⟩
theorem cnt_still (l:List Tup) {y x:Int} (hyx:y≤x) (h : ∀z∈bnd l,z≤y∨x<z):cntAt l y=cntAt l x:=by
 unfold cntAt
 congr 1
 refine List.filter_congr fun t ht=> ?_
 unfold holdsAt
 cases hv:validT t with
 |false=>rfl
 |true =>
  obtain⟨h1,h2⟩:=bnd_mem ht hv
  have h1:=h _ h1
  have h2:=h _ h2
  rw [Bool.true_and,Bool.true_and,Bool.eq_iff_iff]
  simp only [Bool.and_eq_true,decide_eq_true_eq]
  omega
theorem cnt_early (l:List Tup) {x:Int} (h : ∀z∈bnd l,x<z):cntAt l x=0:=by
 unfold cntAt
 rw [List.length_eq_zero_iff,List.filter_eq_nil_iff]
 intro t ht hh
 unfold holdsAt at hh
 simp only [Bool.and_eq_true,decide_eq_true_eq]at hh
 have:=h _ (bnd_mem ht hh.1.1).1
 omega
theorem still_on (l:List Tup) : ∀(R:List Int) (y:Int),(∀x∈R,y<x)→R.Pairwise (· < ·)→(∀z∈bnd l,z≤y∨z∈R)→Still (cntAt l) (fun x=>decide (x∈bnd l)) (cntAt l y) R:=by
 intro R
 induction R with
 |nil=>intro y _ _ _;trivial
 |cons x R ih =>
  intro y h1 h2 h3
  obtain⟨g1,g2⟩:=List.pairwise_cons.1 h2
  refine⟨fun hp=> ?_,ih x g1 g2 fun z hz=> ?_⟩
  ·symm
   refine cnt_still l (by have:=h1 x (by simp);omega) fun z hz=> ?_
   rcases h3 z hz with c | c
   ·exact .inl c
   ·rcases List.mem_cons.1 c with rfl | c
    ·simp [hz]at hp
    ·exact .inr (g1 z c)
  ·rcases h3 z hz with c | c
   ·exact .inl (by have:=h1 x (by simp);omega)
   ·rcases List.mem_cons.1 c with rfl | c
    ·exact .inl (Int.le_refl _)
    ·exact .inr c
theorem still_all (l:List Tup) {R:List Int} (hR:R.Pairwise (· < ·)) (h : ∀z∈bnd l,z∈R):Still (cntAt l) (fun x=>decide (x∈bnd l)) 0 R:=by
 cases R with
 |nil=>trivial
 |cons x R =>
  obtain⟨g1,g2⟩:=List.pairwise_cons.1 hR
  refine⟨fun hp=> ?_,still_on l R x g1 g2 fun z hz=> ?_⟩
  ·refine cnt_early l fun z hz=> ?_
   rcases List.mem_cons.1 (h z hz)with rfl | c
   ·simp [hz]at hp
   ·exact g1 z c
  ·rcases List.mem_cons.1 (h z hz)with rfl | c
   ·exact .inl (Int.le_refl _)
   ·exact .inr c
theorem levels_over (ps:List Per) {R:List Int} (hR:R.Pairwise (· < ·)) (h : ∀z∈bnd (ps.map perT),z∈R):levels ps=(runL (cntAt (ps.map perT)) R ([],[])).2:=by
 obtain⟨p1,p2,_⟩:=pts_law (ps.map perT)
 have e:R.filter (fun x=>decide (x∈bnd (ps.map perT)))=levPts ps:=by
  refine List.Perm.eq_of_pairwise (le:=(· < ·)) (fun x y _ _ h1 h2=>by omega) (hR.filter _) p1 ((List.perm_ext_iff_of_nodup ((hR.filter _).imp fun h=>by omega) (p1.imp fun h=>by omega)).2 fun x=> ?_)
  rw [p2,List.mem_filter,decide_eq_true_eq]
  exact⟨fun hx=>hx.2,fun hx=>⟨h x hx,hx⟩⟩
 rw [run_still _ _ R ([],[]) (still_all _ hR h),e]
 unfold levels
 rw [levOf_run (levF ps) (cntAt (ps.map perT)) (fun i _=>rfl) _ (Nat.le_refl _),List.take_length]
theorem levels_congr {ps qs:List Per} (h : ∀t,cntAt (ps.map perT) t=cntAt (qs.map perT) t):levels ps=levels qs:=by
 obtain⟨p1,p2,_⟩:=pts_law (ps.map perT++qs.map perT)
 rw [levels_over ps p1 fun z hz=>(p2 z).2 (by rw [bnd_append];exact List.mem_append_left _ hz),levels_over qs p1 fun z hz=>(p2 z).2 (by rw [bnd_append];exact List.mem_append_right _ hz)]
 rw [show cntAt (ps.map perT)=cntAt (qs.map perT)from funext h]
section
open Classical
theorem row_mem (l:List Tup) (r:Row):(∃t∈l,validT t=true∧tupRow t=r)↔ ∃x,r∈sliceRows l x:=by
 unfold sliceRows
 constructor
 ·rintro⟨t,h1,h2,rfl⟩
  refine⟨t.from_,List.mem_map.2 ⟨t,List.mem_filter.2 ⟨h1,?_⟩,rfl⟩⟩
  have hv:validB t.from_ t.to_=true:=h2
  have:=validB_lt hv
  unfold holdsAt
  rw [h2,Bool.true_and]
  simp only [Bool.and_eq_true,decide_eq_true_eq]
  omega
 ·rintro⟨x,hx⟩
  obtain⟨t,h1,h2⟩:=List.mem_map.1 hx
  obtain⟨h3,h4⟩:=List.mem_filter.1 h1
  unfold holdsAt at h4
  simp only [Bool.and_eq_true]at h4
  exact⟨t,h3,h4.1.1,h2⟩
theorem persOf_cnt (r:Row) (l:List Tup) (t:Int):cntAt ((persOf r l).map perT) t=((sliceRows l t).filter fun x=>decide (x=r)).length:=by
 unfold cntAt persOf sliceRows
 rw [List.filter_map,List.length_map,List.filter_map,List.length_map,List.filter_filter,List.filter_filter,List.filter_map,List.length_map,List.filter_filter]
 congr 1
 refine List.filter_congr fun x _=> ?_
 have e:holdsAt t (perT (tupPer x))=holdsAt t x:=rfl
 simp only [Function.comp,e]
 have e2:holdsAt t x=(validT x&&holdsAt t x):=by
  unfold holdsAt
  cases validT x <;> rfl
 cases h1:holdsAt t x
 ·simp
 ·rw [h1,Bool.and_true]at e2
  rw [←e2]
  simp
theorem normT_congr {a b:List Tup} (h : ∀t,(sliceRows a t).Perm (sliceRows b t)):normT a=normT b:=by
 have hr : ∀r,r∈rowsOf a↔ ∃t∈b,validT t=true∧tupRow t=r:=fun r=>by
  rw [row_mem]
  have e:r∈rowsOf a↔ ∃t∈a,validT t=true∧tupRow t=r:=by
   unfold rowsOf
   rw [mem_once,List.mem_map]
   constructor
   ·rintro⟨t,h1,h3⟩;exact⟨t,(List.mem_filter.1 h1).1,(List.mem_filter.1 h1).2,h3⟩
   ·rintro⟨t,h1,h2,h3⟩;exact⟨t,List.mem_filter.2 ⟨h1,h2⟩,h3⟩
  rw [e,row_mem]
  constructor
  ·rintro⟨x,hx⟩;exact⟨x,(h x).mem_iff.1 hx⟩
  ·rintro⟨x,hx⟩;exact⟨x,(h x).mem_iff.2 hx⟩
 refine normT_of (once_nodup _) hr ?_
 unfold normRaw
 refine List.Perm.of_eq (flat_congr fun r _=> ?_)
 have e:levels (persOf r a)=levels (persOf r b):=levels_congr fun t=>by rw [persOf_cnt,persOf_cnt,((h t).filter _).length_eq]
 rw [e]
theorem normT_idem (l:List Tup):normT (normT l)=normT l:=normT_congr fun t=>normT_rows l t
end
end Go.Proofs.YtkddkbpoefidpaaGreatDoor
namespace Go.Proofs.YtkddkbpoefidpaaGreatDoor
open Go.RowKit
def pairRow (x y:Row):Row:=⟨x.vals++y.vals,mergeL x.lin y.lin⟩
def meetT (x y:Tup):List Tup:=if validT x=true∧validT y=true∧max x.from_ y.from_<min x.to_ y.to_ then [tupOf (pairRow (tupRow x) (tupRow y)) ⟨max x.from_ y.from_,min x.to_ y.to_⟩]else []
def tupD:Tup:=⟨[],0,0,[]⟩
def pairT (a b:List Tup) (p:Pair):Tup:=tupOf (pairRow (tupRow (a.getD p.a tupD)) (tupRow (b.getD p.b tupD))) ⟨p.from_,p.to_⟩
def joinRaw (tr:List Val→Bool) (a b:List Tup):List Tup:=((pairsOf a b).map (pairT a b)).filter fun t=>tr t.vals
theorem flat_perm2 {α β:Type} (f g:α→List β) (l:List α):(l.flatMap f++l.flatMap g).Perm (l.flatMap fun x=>f x++g x):=by
 induction l with
 |nil=>exact .refl _
 |cons x l ih =>
  rw [List.flatMap_cons,List.flatMap_cons,List.flatMap_cons]
  have h1:((f x++l.flatMap f)++(g x++l.flatMap g)).Perm ((f x++g x)++(l.flatMap f++l.flatMap g)):=by
   rw [List.append_assoc,List.append_assoc]
   refine List.Perm.append_left _ ?_
   rw [←List.append_assoc,←List.append_assoc]
   exact List.Perm.append_right _ List.perm_append_comm
  exact h1.trans (List.Perm.append_left _ ih)
def joinRow (tr:List Val→Bool) (B:List Row) (x:Row):List Row:=(B.map (pairRow x)).filter fun r=>tr r.vals
def snapJoin (tr:List Val→Bool) (A B:List Row):List Row:=A.flatMap (joinRow tr B)
noncomputable def innerT (tr:List Val→Bool) (a b:List Tup):List Tup:=normT (joinRaw tr a b)
theorem flat_permF {α β:Type} {f g:α→List β} (l:List α) (h : ∀x∈l,(f x).Perm (g x)):(l.flatMap f).Perm (l.flatMap g):=by
 induction l with
 |nil=>exact .refl _
 |cons x l ih=>rw [List.flatMap_cons,List.flatMap_cons];exact(h x (by simp)).append (ih fun y hy=>h y (by simp [hy]))
def subP1 (tz:Int):Int→List Per→List Per
 |at_,[]=>if at_<tz then [⟨at_,tz⟩]else []
 |at_,q::qs=>if q.to_≤at_∨tz≤q.from_ then subP1 tz at_ qs else(if at_<q.from_ then [⟨at_,q.from_⟩]else [])++subP1 tz q.to_ qs
def subPs (a b:List Per):List Per:=(refNorm a).flatMap fun p=>subP1 p.to_ p.from_ (refNorm b)
def partners (tr:List Val→Bool) (a b:List Tup) (i:Nat):List Per:=((pairsOf a b).filter fun p=>decide (p.a=i)&&tr (pairT a b p).vals).map fun p=>⟨p.from_,p.to_⟩
def padRow (w:Nat) (r:Row):Row:=⟨r.vals++List.replicate w nV,r.lin⟩
def padAt (tr:List Val→Bool) (w:Nat) (a b:List Tup) (k:Nat):List Tup:=(subPs [tupPer (a.getD k tupD)] (partners tr a b k)).map (tupOf (padRow w (tupRow (a.getD k tupD))))
def padUpto (tr:List Val→Bool) (w:Nat) (a b:List Tup):Nat→List Tup
 |0=> []
 |k+1=>padUpto tr w a b k++padAt tr w a b k
def leftRaw (tr:List Val→Bool) (w:Nat) (a b:List Tup):List Tup:=joinRaw tr a b++padUpto tr w a b a.length
noncomputable def leftT (tr:List Val→Bool) (w:Nat) (a b:List Tup):List Tup:=normT (leftRaw tr w a b)
def padOf (w:Nat) (m:List Row) (x:Row):List Row:=if m.isEmpty=true then [padRow w x]else []
def snapLeft (tr:List Val→Bool) (w:Nat) (A B:List Row):List Row:=A.flatMap fun x=>joinRow tr B x++padOf w (joinRow tr B x) x
def cutT (t:Tup):Int→List Int→List Tup
 |from_,[]=> [⟨t.vals,from_,t.to_,t.lin⟩]
 |from_,p::ps=>if t.to_≤p then [⟨t.vals,from_,t.to_,t.lin⟩]else if from_<p then⟨t.vals,from_,p,t.lin⟩::cutT t p ps else cutT t from_ ps
def splitT (l:List Tup) (P:List Int):List Tup:=l.flatMap fun t=>if validT t=true then cutT t t.from_ P else []
end Go.Proofs.YtkddkbpoefidpaaGreatDoor
namespace Go.Proofs.YtkddkbpoefidpaaGreatDoor
open Go.RowKit
def Free2 (w:World) (B:Nat):Prop:=(∃u,w.cell? ⟨B,0,none⟩=some u)∧(∃u,w.cell? ⟨B,1,none⟩=some u)∧w.frozen? ⟨B,0,none⟩=false∧w.frozen? ⟨B,1,none⟩=false
theorem keepX4 {W wa wb:World} {b1 b2 b3 b4 o1 o2 o3 o4:Nat} {v1 v2 v3 v4:Value} {row:Option Nat}
  (h:Ext W wa∧wa.cell? ⟨b1,o1,none⟩=some v1∧wa.cell? ⟨b2,o2,none⟩=some v2∧wa.cell? ⟨b3,o3,none⟩=some v3∧wa.cell? ⟨b4,o4,none⟩=some v4) (gr:wa.grownBy wb row) (hr : ∀k,row=some k→W.heap.size≤k) (hb : ∀k,row=some k→k≠b1∧k≠b2∧k≠b3∧k≠b4) :
  Ext W wb∧wb.cell? ⟨b1,o1,none⟩=some v1∧wb.cell? ⟨b2,o2,none⟩=some v2∧wb.cell? ⟨b3,o3,none⟩=some v3∧wb.cell? ⟨b4,o4,none⟩=some v4 :=
 ⟨ext_grown h.1 gr hr,cell_grown gr h.2.1 fun k hk=>(hb k hk).1,cell_grown gr h.2.2.1 fun k hk=>(hb k hk).2.1,cell_grown gr h.2.2.2.1 fun k hk=>(hb k hk).2.2.1,cell_grown gr h.2.2.2.2 fun k hk=>(hb k hk).2.2.2⟩
theorem old_all {w w':World} {v:Value} (hx:Ext w w') (hb : ∀k,v.ownBlock=some k→w.heap.size≤k):Sub w.cell? (on w' (avoid (fun _=>True) v)):=fun p u e =>
 on_some.2 ⟨⟨fun he=>by have h1:=hb _ he.symm;have h2:=World.block_lt_of_cell? w p e;omega,trivial⟩,hx.at e⟩
theorem flat_valC:Rep.val.flat:=fun _ _ _ _ h=>h
theorem info_valC:(Tryz.prog.info? 73).map (fun i=>(i.zero,i.size,i.bytes))=some (some (.agg #[.int .i64 0,.int .i64 0,.string ByteArray.empty]),Rep.val.size,32):=by kernel_rfl
end Go.Proofs.YtkddkbpoefidpaaGreatDoor
namespace Go.Proofs.YtkddkbpoefidpaaGreatDoor
open Go.RowKit
theorem ext_set3 {w W:World} {B:Nat} (h:Ext w W) (hB:w.heap.size≤B) (u0 u1 u2:Value):Ext w (((W.setCell ⟨B,0,none⟩ u0).setCell ⟨B,1,none⟩ u1).setCell ⟨B,2,none⟩ u2) :=
 Below.setCell (Below.setCell (Below.setCell h hB u0) hB u1) hB u2
end Go.Proofs.YtkddkbpoefidpaaGreatDoor
