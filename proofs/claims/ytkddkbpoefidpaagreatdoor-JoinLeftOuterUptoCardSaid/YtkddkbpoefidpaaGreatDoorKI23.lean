/- joined texts of a proof: PairE -/
import Derived.Test.YtkddkbpoefidpaaGreatDoorKI16
namespace Go.Proofs.YtkddkbpoefidpaaGreatDoor
open Go.RowKit Go.Shelf Go.Sort
theorem bool_other : ∀ {c d:Bool},¬c=d→c = !d:=by decide
theorem two_lit {w1 w2:World} {v1 v2:Value} {x y:List Ev} (T:TypeId) (h1:SliceOf Rep.ev w1.cell? v1 x) (hx:Ext w1 w2) (h2:SliceOf Rep.ev w2.cell? v2 y) :
  SliceOf (Rep.slice Rep.ev) (w2.alloc (.cells #[v1,v2] T)).cell? (.slice (some ⟨w2.heap.size,0,none⟩) 2 2) [x,y] :=
 slice_lit (Rep.slice Rep.ev) w2 [v1,v2] T [[v1],[v2]] [x,y] rfl ⟨⟨v1,rfl,h1.ext (hx.trans ((Ext.refl w2).alloc _)).full⟩,⟨v2,rfl,h2.ext ((Ext.refl w2).alloc _).full⟩,trivial⟩ (by simp [maxLen])
theorem two_new {w w':World} {x y:Value} {T:TypeId} (h:Ext (w.alloc (.cells #[x,y] T)) w'):w'.cell? ⟨w.heap.size,0,none⟩=some x∧w'.cell? ⟨w.heap.size,1,none⟩=some y∧w'.frozen? ⟨w.heap.size,0,none⟩=false∧w'.frozen? ⟨w.heap.size,1,none⟩=false :=
 ⟨h.at (by simp),h.at (by simp),h.unfrozen (v:=x) (by simp) (by simp),h.unfrozen (v:=y) (by simp) (by simp)⟩
theorem ext_two {W wa wb:World} {u0 u1:Value} (h:Ext W wa) (x:Ext wa wb):Ext W ((wb.setCell ⟨W.heap.size,0,none⟩ u0).setCell ⟨W.heap.size,1,none⟩ u1) :=
 Below.setCell (Below.setCell (h.trans x) (Nat.le_refl _) _) (Nat.le_refl _) _
theorem two_new_drew {w w':World} {x y:Value} {T:TypeId} (h:Ext (w.alloc (.cells #[x,y] T)).drew w'):w'.cell? ⟨w.heap.size,0,none⟩=some x∧w'.cell? ⟨w.heap.size,1,none⟩=some y∧w'.frozen? ⟨w.heap.size,0,none⟩=false∧w'.frozen? ⟨w.heap.size,1,none⟩=false :=
 two_new ((Ext.refl _).drew.trans h)
set_option maxRecDepth 100000 in
set_option maxHeartbeats 8000000 in
theorem overlap_any (va vb:Value) (a b:List Tup) (w:World) (ha:SliceOf Rep.tup w.cell? va a) (hb:SliceOf Rep.tup w.cell? vb b) (hla:a.length≤100) (hlb:b.length≤100) :
  Calls Tryz.prog 127 #[va,vb] w fun e w'=> ∃v,e = .returned v∧SliceOf Rep.pair (on w' (fun k=>w.heap.size≤k)) v (pairsOf a b)∧Ext w w':=by
 obtain⟨i9,hi9,hz9,hz91,hz92⟩:=info_parts info_pair
 have mixed:=mixedOrd
 have HA:=Lib.hid ha
 have HB:=Lib.hid hb
 have HRA:=Lib.hid (tup_rng ha)
 have HRB:=Lib.hid (tup_rng hb)
 obtain⟨pa,ca,rfl,_,_,hpa⟩:=ha.form
 obtain⟨pb,cb,rfl,_,_,hpb⟩:=hb.form
 have HPA:=Lib.hid hpa
 have HPB:=Lib.hid hpb
 have HL:=Lib.hid (And.intro hla hlb)
 clear ha hb hla hlb hpa hpb
 go_enter Tryz.func127,Tryz.ntmps127
 go_wp2_with fail
 refine(starts_any _ a false _ HA.out (by have:=HL.out;omega)).mono ?_
 rintro e w1 ⟨v1,rfl,o1,x1⟩
 have O1:=Lib.hid o1
 obtain⟨p1,n1,k1,rfl⟩:=o1.shape
 clear o1
 go_wp2_with fail
 refine(starts_any _ b true _ (HB.out.ext x1.full) (by have:=HL.out;omega)).mono ?_
 rintro e w2 ⟨v2,rfl,o2,x2⟩
 have O2:=Lib.hid o2
 obtain⟨p2,n2,k2,rfl⟩:=o2.shape
 clear o2
 go_wp2_with fail
 refine(concat_ev _ [starts false a,starts true b] _ (two_lit _ O1.out.slice x2 O2.out.slice) (by have h1:=starts_len false a;have h2:=starts_len true b;have:=HL.out;simp;omega)).mono ?_
 rintro e w3 ⟨v3,rfl,o3,x3⟩
 have hfl : [starts false a,starts true b].flatten=starts false a++starts true b:=by simp
 rw [hfl]at o3
 have X3:=(x1.trans x2).trans (((Ext.refl w2).alloc _).trans x3)
 have hbase:=Nat.le_trans (x1.trans x2).size ((Ext.refl w2).alloc (.cells #[.slice p1 n1 k1,.slice p2 n2 k2] 243)).size
 have O3:=Lib.hid (o3.weak (T:=fun _=>True) (fun _ _ h=>h) hbase)
 clear x1 x2 x3 hfl o3 O1 O2 hbase
 go_wp2_with fail
 refine(sortStable_ev _ _ _ _ _ _ O3.out (by have h1:=starts_len false a;have h2:=starts_len true b;have:=HL.out;simp;omega)).mono ?_
 rintro e w4 ⟨es,rfl,hperm,hsort,o4,g4⟩
 have X4:=Ext.grownNew X3 g4 O3.out.base
 have HPM:=Lib.hid hperm
 have HSO:=Lib.hid hsort
 have HN0:es.length≤200:=by have h1:=starts_len false a;have h2:=starts_len true b;have:=HL.out;have h3:=hperm.length_eq;simp at h3;omega
 have HKN:=Lib.hid (show ∀e∈es,Known a b e from fun e he=>by
  rcases List.mem_append.1 (hperm.mem_iff.1 he)with h | h
  ·exact known_of (c:=false) (l:=a) rfl (by have:=HL.out;omega) HRA.out h
  ·exact known_of (c:=true) (l:=b) rfl (by have:=HL.out;omega) HRB.out h)
 obtain⟨p3,k3,rfl,hp3⟩:=o4.shapeLen
 have HP3:=Lib.hid hp3
 have S0:=Lib.hid (Sweep.first (va:= .slice pa a.length ca) (vb:= .slice pb b.length cb) 250 253 X4 o4)
 obtain⟨N,hN⟩ : ∃N,N=es.length:=⟨_,rfl⟩
 rw [←hN]at HN0 S0 ⊢
 have HN:=Lib.hid (show N=es.length∧N≤200 from ⟨hN,HN0⟩)
 clear hperm hsort o4 g4 hp3 X3 O3 X4 hN HRA HRB
 go_wp2_with fail
 generalize hB:w4.heap.size+2=B at S0
 clear hB
 generalize w4.heap.size+1=qb at S0 ⊢
 generalize hW:(w4.alloc (.cells #[.slice pa a.length ca,.slice pb b.length cb] 250)).alloc (.cells #[.slice none 0 0,.slice none 0 0] 253)=W0 at S0 ⊢
 generalize w4.heap.size=sb at S0 ⊢
 clear hW
 go_loopg [8,30] N (fun gk vo vi wr=> ∃(k:Nat) (q:Bool→List Ev) (u:Bool→Value) (out:List Pair) (vo':Value),k≤N∧gk=N - k∧vi = .int .i64 k∧vo'=vo∧Hid (Sweep w wr sb qb B (.slice pa a.length ca) (.slice pb b.length cb) (.slice p3 N k3) es q u vo' out) ∧
  Hid (∀c,Queued (q c) (es.take k) c∧(q c).length≤k)∧Hid (out.Perm (allPairs meet (es.take k))∧out.length≤200*k))
 case atStart=>exact⟨0,_,_,[],_,by omega,rfl,rfl,rfl,S0,(fun c=>⟨Queued.nil c,Nat.le_refl _⟩ : ∀c:Bool,Queued [] [] c∧_),⟨List.Perm.refl _,Nat.le_refl _⟩⟩
 case round =>
  clear S0
  obtain⟨k,q,u,out,vo',hk,rfl,rfl,rfl,S1,Q1,P1⟩:=hrel
  by_cases hlt:k<N
  ·have hkl:k<es.length:=by have:=HN.out;omega
   have hd:decide ((k:Int)<(N:Int))=true:=by simp;omega
   obtain⟨g3,rfl,_⟩:=HP3.out (by omega)
   obtain⟨c0,c1,c2⟩:=ev_at S1.out.ev.slice k hkl
   obtain⟨s,hs⟩ : ∃s,s=es[k]:=⟨_,rfl⟩
   have HKS0:=Lib.hid (show Known a b s from by rw [hs];exact HKN.out _ (List.getElem_mem _))
   rw [←hs]at c0 c1 c2
   have HS:=Lib.hid hs
   clear hs
   obtain⟨c,si,sf,st⟩:=s
   cases c
   ·have hsl:=HKS0.out
    obtain⟨hvs,hss,hes,hi1,hf1,ht1⟩:=hsl
    dsimp only at hvs hss hes hi1 hf1 ht1
    simp only [Bool.false_eq_true,↓reduceIte]at hi1 hf1 ht1
    obtain⟨bS,oS,rfl⟩:=HPA.out (by decide) (by omega)
    obtain⟨d1,d2⟩:=ends_at HA.out si hi1
    rw [hf1]at d1
    rw [ht1]at d2
    have D1:=Lib.hid d1
    have D2:=Lib.hid d2
    have HKS:=Lib.hid (show okEv ⟨false,si,sf,st⟩=true∧okS ⟨false,si,sf,st⟩∧okE ⟨false,si,sf,st⟩from ⟨hvs,hss,hes⟩)
    have hsi:si<a.length:=hi1
    have hSi:(si:Int)<(a.length:Int):=by omega
    have wS:IntKind.i64.wrap (si:Int)=(si:Int):=by rw [IntKind.wrap_i64];have:=HL.out;omega
    clear d1 d2 hvs hss hes hi1 hf1 ht1
    have hc0:sideI false=0:=rfl
    rw [hc0]at c1
    have e0:=cell_lt c0
    clear hc0
    go_wp2_with fail
    have X1:Ext wr (wr.alloc (.cells #[.int .i64 sf,.int .i64 0,.int .i64 si] 246)):=(Ext.refl wr).alloc _
    have S5:=Lib.hid (S1.out.grow X1)
    have K5:=Lib.hid (Kept.new wr sf 0 si 246)
    have hE1:wr.heap.size<(wr.alloc (.cells #[.int .i64 sf,.int .i64 0,.int .i64 si] 246)).heap.size:=by simp
    have HU:=Lib.hid (show (∀c k,(u c).ownBlock=some k→k<wr.heap.size)∧(∀k,vo'.ownBlock=some k→k<wr.heap.size)∧qb<wr.heap.size from ⟨fun c k hk=>((S1.out.qs c).own.lt k hk).2,fun k hk=>(S1.out.out.lt k hk).2,S1.out.qsz⟩)
    clear S1 X1 c0 c1 c2 e0
    generalize wr.alloc (.cells #[.int .i64 sf,.int .i64 0,.int .i64 si] 246)=w5 at S5 K5 hE1 ⊢
    generalize wr.heap.size=E1 at K5 hE1 HU ⊢
    have HE1:=Lib.hid hE1
    have c0:=K5.out.c0
    have c1:=K5.out.c1
    go_region_with (first | (go_at_call 178;refine(expire_act qb 1 B sf (u true) (q true) _ (by exact(S5.out.qs true).grow (Ext.refl w5).drew) (S5.out.hp true) (by have:=(Q1.out true).2;have:=HN.out;omega)).mono ?_;rintro e w6 ⟨rfl,u',xs',hq',hh',hp',hub,hch,hot⟩))
    have QE:=(Q1.out true).1.expire (x:=sf) (fun e he=>by
     obtain⟨i,hi,rfl⟩:=List.getElem_of_mem he
     simp at hi
     have h1:=List.pairwise_iff_getElem.1 HSO.out i k (by omega) hkl (by omega)
     rw [←HS.out]at h1
     simpa using h1) hp' ⟨false,si,sf,st⟩ rfl rfl
    have HX:=Lib.hid (show ∀o∈xs',o.side=true∧Known a b o∧o.from_≤sf∧sf<o.to_ from fun o ho=>by
     have h1:=List.mem_filter.1 (QE.1.mem_iff.1 ho)
     have h2:=h1.2
     simp only [Bool.and_eq_true,beq_iff_eq,decide_eq_true_eq]at h2
     refine⟨h2.1,HKN.out o (List.mem_of_mem_take h1.1),?_,h2.2⟩
     obtain⟨i,hi,rfl⟩:=List.getElem_of_mem h1.1
     simp at hi
     have h3:=List.pairwise_iff_getElem.1 HSO.out i k (by omega) hkl (by omega)
     rw [←HS.out]at h3
     simpa using h3)
    have HQE:=Lib.hid (And.intro QE (show xs'.length≤k from by
     have h1:=hp'.length_eq
     have h2:=List.length_filter_le (fun e:Ev=>decide (sf<e.to_)) (q true)
     have h3:=(Q1.out true).2
     omega))
    have S6:=Lib.hid ((S5.out.grow (Ext.refl w5).drew).queue (c:=true) hq' hh' (.inl hub) hch hot)
    have K6:=Lib.hid ((K5.out.grow (Ext.refl w5).drew).chg hch (by
     rintro(h | h)
     ·have:=HU.out.2.2;omega
     ·have:=HU.out.1 _ _ h;omega))
    have hz6:=hch.size
    have hE6:E1<w6.heap.size:=by simp at hz6;omega
    have cq:=hq'.cell
    obtain⟨pq,kq,rfl,hpq⟩:=hq'.own.shapeLen
    obtain⟨M,hM⟩ : ∃M,M=xs'.length:=⟨_,rfl⟩
    rw [←hM]at cq S6 hpq
    have HPQ:=Lib.hid hpq
    have HM:=Lib.hid (show M=xs'.length∧M≤200 from ⟨hM,by have:=HQE.out.2;have:=HN.out;omega⟩)
    have HVO:=Lib.hid (show vo'.ownBlock≠some E1 from fun h=>by have:=HU.out.2.1 _ h;omega)
    have hM50:M≤200:=HM.out.2
    clear QE hq' hh' hp' hub hch hot hpq hM hz6 c0 c1 S5 K5
    go_wp2_with fail
    go_loopg [8,46] M (fun gk vo2v vj wr=> ∃(j:Nat) (vo2:Value),j≤M∧gk=M - j∧vj = .int .i64 j∧vo2=vo2v∧Hid (Sweep w wr sb qb B (.slice (some ⟨bS,oS,none⟩) a.length ca) (.slice pb b.length cb) (.slice (some ⟨g3,0,none⟩) N k3) es (upd q true xs') (upd u true (.slice pq M kq)) vo2 (out++(xs'.take j).map fun o=>mkPair o ⟨false,si,sf,st⟩)) ∧
     Hid (Kept wr E1 sf 0 si∧vo2.ownBlock≠some E1∧E1<wr.heap.size))
    case atStart=>exact⟨0,_,by omega,rfl,rfl,rfl,(by show Sweep _ _ _ _ _ _ _ _ _ _ _ _ _;rw [List.take_zero,List.map_nil,List.append_nil];exact S6.out),⟨K6.out,HVO.out,hE6⟩⟩
    case round =>
     clear S6 K6
     obtain⟨j,vo2,hj,rfl,rfl,rfl,SJ,KJ⟩:=hrel
     obtain⟨OUT,hOUT⟩ : ∃l,l=out++(xs'.take j).map fun o=>mkPair o ⟨false,si,sf,st⟩:=⟨_,rfl⟩
     rw [←hOUT]at SJ
     have HOL:=Lib.hid (show OUT.length≤50000 from by rw [hOUT];have h1:=P1.out.2;have h2:=HM.out;have h3:=HN.out;simp;omega)
     have HOUT:=Lib.hid hOUT
     clear hOUT
     by_cases hlj:j<M
     ·have hjl:j<xs'.length:=by have:=HM.out;omega
      obtain⟨gq,rfl,_⟩:=HPQ.out (by omega)
      have hQ:=SJ.out.qs true
      rw [upd_same,upd_same]at hQ
      obtain⟨q0,q1⟩:=act_at hQ.own.slice j hjl
      clear hQ
      obtain⟨o,ho⟩ : ∃o,o=xs'[j]:=⟨_,rfl⟩
      have hom:o∈xs':=by rw [ho];exact List.getElem_mem _
      rw [←ho]at q0 q1
      have HOJ:=Lib.hid ho
      clear ho
      have hk2:=HX.out o hom
      obtain⟨oc,oi,of,ot⟩:=o
      obtain⟨rfl,hko,hfo,hto⟩:=hk2
      obtain⟨hv2,hs2,he2,hi2,hf2,ht2⟩:=hko
      dsimp only at q0 q1 hv2 hs2 he2 hi2 hf2 ht2 hfo hto
      simp only [↓reduceIte]at hi2 hf2 ht2
      obtain⟨bO,oO,rfl⟩:=HPB.out (by decide) (by omega)
      obtain⟨g1,g2⟩:=ends_at HB.out oi hi2
      rw [hf2]at g1
      rw [ht2]at g2
      have G1:=Lib.hid g1
      have G2:=Lib.hid g2
      obtain⟨pf,hpf⟩ : ∃x,x=max of sf:=⟨_,rfl⟩
      obtain⟨pt,hpt⟩ : ∃x,x=min ot st:=⟨_,rfl⟩
      have HI:=Lib.hid (show interV sf st of ot = .tuple #[.agg #[.int .i64 pf,.int .i64 pt],.bool true]from interV_yes (a:=sf) (b:=st) (c:=of) (d:=ot) (x:=pf) (y:=pt) (by have h1:=HKS.out;have h2:=validB_lt hv2;have h3:=validB_lt h1.1;simp only [interB,Bool.and_eq_true,decide_eq_true_eq];refine⟨⟨?_,?_⟩,by dsimp only at *;omega⟩ <;> first | exact hv2 | exact h1.1) (by omega) (by omega))
      have HY:=Lib.hid (show mkPair ⟨true,oi,of,ot⟩ ⟨false,si,sf,st⟩=⟨si,oi,pf,pt⟩from by simp [mkPair,hpf,hpt])
      have HOK:=Lib.hid (show okP ⟨si,oi,pf,pt⟩from by have h1:=HKS.out;have a1:=h1.2.1;have a2:=h1.2.2;simp only [okS,okE]at a1 a2 hs2 he2;simp only [okP];omega)
      have hAi:(si:Int)<(a.length:Int):=by omega
      have hBi:(oi:Int)<(b.length:Int):=by omega
      have wA:IntKind.i64.wrap (si:Int)=(si:Int):=by rw [IntKind.wrap_i64];have:=HL.out;omega
      have wB:IntKind.i64.wrap (oi:Int)=(oi:Int):=by rw [IntKind.wrap_i64];have:=HL.out;omega
      have hd2:decide ((j:Int)<(M:Int))=true:=by simp;omega
      have HLJ:=Lib.hid hlj
      have c0:=KJ.out.1.c0
      have c1:=KJ.out.1.c1
      have c2:=KJ.out.1.c2
      have e1:=cell_lt c0
      have e2:=cell_lt q0
      clear hpf hpt hv2 hs2 he2 hf2 ht2 hfo hto g1 g2 hom hlj
      go_wp2_with fail
      have X6:Ext wr ((wr.alloc (.cells #[.int .i64 oi,.int .i64 ot] 256)).alloc (.cells #[.int .i64 0,.int .i64 0] 257)):=((Ext.refl wr).alloc _).alloc _
      have m0:((wr.alloc (.cells #[.int .i64 oi,.int .i64 ot] 256)).alloc (.cells #[.int .i64 0,.int .i64 0] 257)).cell? ⟨wr.heap.size,0,none⟩=some (.int .i64 oi):=by go_simp
      have i0:((wr.alloc (.cells #[.int .i64 oi,.int .i64 ot] 256)).alloc (.cells #[.int .i64 0,.int .i64 0] 257)).cell? ⟨wr.heap.size+1,0,none⟩=some (.int .i64 0):=by simp
      have i1:((wr.alloc (.cells #[.int .i64 oi,.int .i64 ot] 256)).alloc (.cells #[.int .i64 0,.int .i64 0] 257)).cell? ⟨wr.heap.size+1,1,none⟩=some (.int .i64 0):=by simp
      have f0:((wr.alloc (.cells #[.int .i64 oi,.int .i64 ot] 256)).alloc (.cells #[.int .i64 0,.int .i64 0] 257)).frozen? ⟨wr.heap.size+1,0,none⟩=false:=by simp
      have f1:((wr.alloc (.cells #[.int .i64 oi,.int .i64 ot] 256)).alloc (.cells #[.int .i64 0,.int .i64 0] 257)).frozen? ⟨wr.heap.size+1,1,none⟩=false:=by simp
      replace c1:=X6.at c1
      replace c2:=X6.at c2
      have XX6:=Lib.hid X6
      have hz6:wr.heap.size+2=((wr.alloc (.cells #[.int .i64 oi,.int .i64 ot] 256)).alloc (.cells #[.int .i64 0,.int .i64 0] 257)).heap.size:=by simp
      clear X6 q0 q1 c0 e2
      generalize (wr.alloc (.cells #[.int .i64 oi,.int .i64 ot] 256)).alloc (.cells #[.int .i64 0,.int .i64 0] 257)=W6 at m0 i0 i1 f0 f1 c1 c2 XX6 hz6 ⊢
      have HZ6:=Lib.hid hz6
      generalize hib:wr.heap.size+1=ib at i0 i1 f0 f1 ⊢
      have HIB:=Lib.hid (show wr.heap.size≤ib∧ib<W6.heap.size from by omega)
      have n1 : ¬wr.heap.size=ib:=by omega
      have n2 : ¬E1=ib:=by omega
      have n3 : ¬ib=wr.heap.size:=by omega
      have n4 : ¬ib=E1:=by omega
      clear hz6 hib
      go_big_region_o
      all_goals go_wp2_with fail
      have X7:Ext wr ((W6.setCell ⟨ib,0,none⟩ (.int .i64 si)).setCell ⟨ib,1,none⟩ (.int .i64 oi)).drew:=(Below.setCell (Below.setCell XX6.out HIB.out.1 _) HIB.out.1 _).drew
      have a0:((W6.setCell ⟨ib,0,none⟩ (.int .i64 si)).setCell ⟨ib,1,none⟩ (.int .i64 oi)).drew.cell? ⟨ib,0,none⟩=some (.int .i64 si):=by go_simp
      have a1:((W6.setCell ⟨ib,0,none⟩ (.int .i64 si)).setCell ⟨ib,1,none⟩ (.int .i64 oi)).drew.cell? ⟨ib,1,none⟩=some (.int .i64 oi):=by go_simp
      have XX7:=Lib.hid X7
      clear i0 i1 f0 f1 m0 c1 c2 XX6 HZ6 n1 n2 n3 n4
      generalize ((W6.setCell ⟨ib,0,none⟩ (.int .i64 si)).setCell ⟨ib,1,none⟩ (.int .i64 oi)).drew=W7 at X7 XX7 a0 a1 ⊢
      have d1:=(SJ.out.ext.trans X7).at D1.out
      have d2:=(SJ.out.ext.trans X7).at D2.out
      have g1:=(SJ.out.ext.trans X7).at G1.out
      have g2:=(SJ.out.ext.trans X7).at G2.out
      clear X7
      have e3:=cell_lt a0
      have e4:=cell_lt d1
      have e5:=cell_lt g1
      have mkS : ∀w',Ext W7 w'→Ext W7 w'∧w'.cell? ⟨ib,0,none⟩=some (.int .i64 si)∧w'.cell? ⟨ib,1,none⟩=some (.int .i64 oi)∧w'.cell? ⟨bS,oS+si*4+1,none⟩=some (.int .i64 sf)∧w'.cell? ⟨bS,oS+si*4+2,none⟩=some (.int .i64 st)∧w'.cell? ⟨bO,oO+oi*4+1,none⟩=some (.int .i64 of)∧w'.cell? ⟨bO,oO+oi*4+2,none⟩=some (.int .i64 ot) :=
       fun w' h=>⟨h,h.at a0,h.at a1,h.at d1,h.at d2,h.at g1,h.at g2⟩
      have MK:=Lib.hid mkS
      have hS0:=mkS _ (Ext.refl W7).drew
      clear mkS e1 e3 e4 e5 d1 d2 g1 g2
      go_region_held3 (fun w'=>Ext W7 w'∧w'.cell? ⟨ib,0,none⟩=some (.int .i64 si)∧w'.cell? ⟨ib,1,none⟩=some (.int .i64 oi)∧w'.cell? ⟨bS,oS+si*4+1,none⟩=some (.int .i64 sf)∧w'.cell? ⟨bS,oS+si*4+2,none⟩=some (.int .i64 st)∧w'.cell? ⟨bO,oO+oi*4+1,none⟩=some (.int .i64 of)∧w'.cell? ⟨bO,oO+oi*4+2,none⟩=some (.int .i64 ot))
       (first |with_reducible assumption | with_reducible exact MK.out _ (Ext.trans (And.left (by assumption)) x8) | with_reducible exact MK.out _ (Ext.alloc (And.left (by assumption)) _) | with_reducible exact MK.out _ (Ext.alloc (Ext.trans (And.left (by assumption)) x8) _) | with_reducible exact MK.out _ (Below.setCell (Below.setCell (Ext.alloc (And.left (by assumption)) _) (Below.size (And.left (by assumption))) _) (Below.size (And.left (by assumption))) _) | with_reducible exact MK.out _ (Below.setCell (Below.setCell (And.left (by assumption)) (Nat.le_refl _) _) (Nat.le_refl _) _) | exact y9 _ _ | exact z9 _)
       (first |(go_at_call 102;refine(intersect_any _ _ _ _ _).mono ?_;rintro e w8 ⟨rfl,x8⟩;rw [HI.out];have hw9:Ext W7 w8:=Ext.trans (And.left (by assumption)) x8;have y9:=fun u0 u1=>MK.out _ (ext_two (u0:=u0) (u1:=u1) hw9 (Ext.refl w8));have z9:=fun o=>MK.out _ (Ext.alloc hw9 o);first | (have t9:=two_new_drew x8;have t0:=t9.1;have t1:=t9.2.1;have t2:=t9.2.2.1;have t3:=t9.2.2.2;clear t9) | skip))
      ·have s9:=z9 (.cells #[.int .i64 pf,.int .i64 pt] 94)
       have F0:(w8.alloc (.cells #[.int .i64 pf,.int .i64 pt] 94)).cell? ⟨w8.heap.size,0,none⟩=some (.int .i64 pf):=by simp
       have F1:(w8.alloc (.cells #[.int .i64 pf,.int .i64 pt] 94)).cell? ⟨w8.heap.size,1,none⟩=some (.int .i64 pt):=by simp
       have XF:=Lib.hid (XX7.out.trans s9.1)
       have b0:=s9.2.1
       have b1:=s9.2.2.1
       clear hw9 y9 z9 x8 s9 a0 a1 hS0
       generalize w8.alloc (.cells #[.int .i64 pf,.int .i64 pt] 94)=W9 at *
       generalize w8.heap.size=tb at F0 F1 ⊢
       have hol:=HOL.out
       have B1:OUT.length + [(⟨si,oi,pf,pt⟩:Pair)].length≤maxLen:=by simp [maxLen];omega
       have B2:(OUT.length + [(⟨si,oi,pf,pt⟩:Pair)].length)*32≤140737488355328:=by simp;omega
       clear hol
       go_wp2_with (at_builtin;refine wpList_append_all Rep.pair (fun _=>True) rfl _ _ 194 rfl B 197 i9 _ 32 Tryz.underlying194 hi9 hz9 hz91 hz92 rfl (by decide) vo2 OUT rfl (by exact SJ.out.out.ext (XF.out.alloc _)) _ [⟨si,oi,pf,pt⟩] rfl (by exact lone_flat (T:=197) (cs:=pairEnc ⟨si,oi,pf,pt⟩) flat_pair ⟨rfl,HOK.out⟩ (SJ.out.out.ext XF.out)) B1 B2 (by exact Nat.le_trans SJ.out.base (XF.out.alloc _).size) ?_)
       intro v' w10 own gr hat
       have XG:=XF.out.alloc (.cells #[.int .i64 (si:Nat),.int .i64 (oi:Nat),.int .i64 pf,.int .i64 pt] 197)
       have hat2:v'.ownBlock=vo2.ownBlock∨v'.ownBlock=some (W9.alloc (.cells #[.int .i64 (si:Nat),.int .i64 (oi:Nat),.int .i64 pf,.int .i64 pt] 197)).heap.size:=by
        rcases hat with h | h
        ·exact .inl h
        ·exact .inr (by rw [h];simp)
       have SN:=Lib.hid ((SJ.out.grow XG).push own gr hat2)
       clear hat2
       have KN:=Lib.hid (show Kept w10 E1 sf 0 si∧v'.ownBlock≠some E1∧E1<w10.heap.size from
        ⟨(KJ.out.1.grow XG).chg (chg_grown gr) KJ.out.2.1,by
         rcases hat with hat | hat
         ·rw [hat];exact KJ.out.2.1
         ·rw [hat]
          intro e
          injection e with e
          have h1:=XF.out.size
          have h2:=KJ.out.2.2
          omega,by
         have h1:=XG.size
         have h2:=KJ.out.2.2
         have h3:=gr.size
         omega⟩)
       clear own gr hat XG b0 b1 F0 F1
       go_wp2_with fail
       go_roundg (M - (j+1))
       case measure=>have:=HLJ.out;omega
       case rel =>
        refine⟨j+1,v',by have:=HLJ.out;omega,rfl,by go_num,rfl,?_,KN.out⟩
        show Sweep _ _ _ _ _ _ _ _ _ _ _ _ _
        have hjl:j<xs'.length:=by have h1:=HM.out;have h2:=HLJ.out;omega
        have hl:out++(xs'.take (j+1)).map (fun o=>mkPair o ⟨false,si,sf,st⟩)=OUT ++ [⟨si,oi,pf,pt⟩]:=by
         rw [List.take_succ_eq_append_getElem hjl,List.map_append,←List.append_assoc,←HOUT.out,List.map_cons,List.map_nil,←HOJ.out,HY.out]
        rw [hl]
        exact SN.out
      ·have s9:=y9 (.int .i64 pf) (.int .i64 pt)
       have F0:((w8.setCell ⟨W7.heap.size,0,none⟩ (.int .i64 pf)).setCell ⟨W7.heap.size,1,none⟩ (.int .i64 pt)).cell? ⟨W7.heap.size,0,none⟩=some (.int .i64 pf):=by
        rw [World.cell?_setCell_other _ _ _ _ (by simp),World.cell?_setCell_same' _ _ _ (by rw [t0];rfl)]
       have F1:((w8.setCell ⟨W7.heap.size,0,none⟩ (.int .i64 pf)).setCell ⟨W7.heap.size,1,none⟩ (.int .i64 pt)).cell? ⟨W7.heap.size,1,none⟩=some (.int .i64 pt) :=
        World.cell?_setCell_same' _ _ _ (by rw [World.cell?_setCell_other _ _ _ _ (by simp),t1];rfl)
       have XF:=Lib.hid (XX7.out.trans s9.1)
       have b0:=s9.2.1
       have b1:=s9.2.2.1
       clear hw9 y9 z9 x8 s9 a0 a1 hS0 t0 t1 t2 t3
       generalize (w8.setCell ⟨W7.heap.size,0,none⟩ (.int .i64 pf)).setCell ⟨W7.heap.size,1,none⟩ (.int .i64 pt)=W9 at *
       generalize W7.heap.size=tb at F0 F1 ⊢
       have hol:=HOL.out
       have B1:OUT.length + [(⟨si,oi,pf,pt⟩:Pair)].length≤maxLen:=by simp [maxLen];omega
       have B2:(OUT.length + [(⟨si,oi,pf,pt⟩:Pair)].length)*32≤140737488355328:=by simp;omega
       clear hol
       go_wp2_with (at_builtin;refine wpList_append_all Rep.pair (fun _=>True) rfl _ _ 194 rfl B 197 i9 _ 32 Tryz.underlying194 hi9 hz9 hz91 hz92 rfl (by decide) vo2 OUT rfl (by exact SJ.out.out.ext (XF.out.alloc _)) _ [⟨si,oi,pf,pt⟩] rfl (by exact lone_flat (T:=197) (cs:=pairEnc ⟨si,oi,pf,pt⟩) flat_pair ⟨rfl,HOK.out⟩ (SJ.out.out.ext XF.out)) B1 B2 (by exact Nat.le_trans SJ.out.base (XF.out.alloc _).size) ?_)
       intro v' w10 own gr hat
       have XG:=XF.out.alloc (.cells #[.int .i64 (si:Nat),.int .i64 (oi:Nat),.int .i64 pf,.int .i64 pt] 197)
       have hat2:v'.ownBlock=vo2.ownBlock∨v'.ownBlock=some (W9.alloc (.cells #[.int .i64 (si:Nat),.int .i64 (oi:Nat),.int .i64 pf,.int .i64 pt] 197)).heap.size:=by
        rcases hat with h | h
        ·exact .inl h
        ·exact .inr (by rw [h];simp)
       have SN:=Lib.hid ((SJ.out.grow XG).push own gr hat2)
       clear hat2
       have KN:=Lib.hid (show Kept w10 E1 sf 0 si∧v'.ownBlock≠some E1∧E1<w10.heap.size from
        ⟨(KJ.out.1.grow XG).chg (chg_grown gr) KJ.out.2.1,by
         rcases hat with hat | hat
         ·rw [hat];exact KJ.out.2.1
         ·rw [hat]
          intro e
          injection e with e
          have h1:=XF.out.size
          have h2:=KJ.out.2.2
          omega,by
         have h1:=XG.size
         have h2:=KJ.out.2.2
         have h3:=gr.size
         omega⟩)
       clear own gr hat XG b0 b1 F0 F1
       go_wp2_with fail
       go_roundg (M - (j+1))
       case measure=>have:=HLJ.out;omega
       case rel =>
        refine⟨j+1,v',by have:=HLJ.out;omega,rfl,by go_num,rfl,?_,KN.out⟩
        show Sweep _ _ _ _ _ _ _ _ _ _ _ _ _
        have hjl:j<xs'.length:=by have h1:=HM.out;have h2:=HLJ.out;omega
        have hl:out++(xs'.take (j+1)).map (fun o=>mkPair o ⟨false,si,sf,st⟩)=OUT ++ [⟨si,oi,pf,pt⟩]:=by
         rw [List.take_succ_eq_append_getElem hjl,List.map_append,←List.append_assoc,←HOUT.out,List.map_cons,List.map_nil,←HOJ.out,HY.out]
        rw [hl]
        exact SN.out
     ·have hjM:j=M:=by omega
      have hd2 : ¬(j:Int)<(M:Int):=by omega
      have hd3:M≤j:=by omega
      have hS5:=(SJ.out.qs false).grow (Ext.refl wr).drew
      have hcall:=heapPush_act qb 0 B (u false) (q false) ⟨false,si,sf,st⟩ wr.drew hS5 (SJ.out.hp false) HKS.out.2.2 (by have h1:=(Q1.out false).2;have h2:=HN.out;omega)
      have NC:=Lib.hid (show ∀k,(k=qb∨(u false).ownBlock=some k)→k≠E1∧k≠sb∧k≠bS from fun k hk=>by
       have h1:=SJ.out.qbB
       have h2:=SJ.out.sbB
       have h3:=World.block_lt_of_cell? w _ D2.out
       have h4:=HU.out
       simp only at h3
       rcases hk with rfl | hk
       ·omega
       ·have h5:=(hS5.own.lt k hk).1
        have h6:=h4.1 _ _ hk
        omega)
      have c1:=KJ.out.1.c1
      have c2:=KJ.out.1.c2
      have c3:=SJ.out.s0
      have c4:=SJ.out.ext.at D2.out
      have e1:=cell_lt c1
      have e3:=cell_lt c3
      have e4:=cell_lt c4
      have SD:=Lib.hid (SJ.out.grow (Ext.refl wr).drew)
      have HJM:=Lib.hid hjM
      clear hjM hS5 hlj SJ
      go_wp2_with fail
      have hS0:wr.drew.cell? ⟨E1,1,none⟩=some (.int .i64 0)∧wr.drew.cell? ⟨E1,2,none⟩=some (.int .i64 si)∧wr.drew.cell? ⟨sb,0,none⟩=some (.slice (some ⟨bS,oS,none⟩) a.length ca)∧wr.drew.cell? ⟨bS,oS+si*4+2,none⟩=some (.int .i64 st):=⟨c1,c2,c3,c4⟩
      clear c1 c2 c3 c4
      go_region_held3 (fun w'=>w'.cell? ⟨E1,1,none⟩=some (.int .i64 0)∧w'.cell? ⟨E1,2,none⟩=some (.int .i64 si)∧w'.cell? ⟨sb,0,none⟩=some (.slice (some ⟨bS,oS,none⟩) a.length ca)∧w'.cell? ⟨bS,oS+si*4+2,none⟩=some (.int .i64 st))
       (first |with_reducible assumption | exact y9)
       (first |(go_at_call 179;refine hcall.mono ?_;rintro e w11 ⟨rfl,v',ys,hq',hh',hp',hat,hch,hot⟩;have y9:w11.cell? ⟨E1,1,none⟩=some (.int .i64 0)∧w11.cell? ⟨E1,2,none⟩=some (.int .i64 si)∧w11.cell? ⟨sb,0,none⟩=some (.slice (some ⟨bS,oS,none⟩) a.length ca)∧w11.cell? ⟨bS,oS+si*4+2,none⟩=some (.int .i64 st):=⟨hch.at hS0.1 (fun h=>(NC.out _ h).1 rfl),hch.at hS0.2.1 (fun h=>(NC.out _ h).1 rfl),hch.at hS0.2.2.1 (fun h=>(NC.out _ h).2.1 rfl),hch.at hS0.2.2.2 (fun h=>(NC.out _ h).2.2 rfl)⟩))
      all_goals
       have SN:=Lib.hid (SD.out.queue (c:=false) hq' hh' hat hch hot)
       have HPP:=Lib.hid hp'
       clear hq' hh' hat hch hot hp' y9 hS0 hcall NC
       go_wp2_with fail
       go_roundg (N - (k+1))
       case measure=>omega
       case rel =>
        have hpl:=HPP.out.length_eq
        have htk:es.take (k+1)=es.take k ++ [⟨false,si,sf,st⟩]:=by rw [List.take_succ_eq_append_getElem hkl,←HS.out]
        have hxl:xs'.take j=xs':=List.take_of_length_le (by have h1:=HM.out;have h2:=HJM.out;omega)
        have hsn:=SN.out
        refine⟨k+1,_,_,OUT,vo2,by omega,rfl,by go_num,rfl,hsn,?_,?_⟩
        ·show ∀c,_∧_
         rw [htk]
         intro c
         by_cases hc:c=false
         ·subst hc
          exact⟨(Q1.out false).1.push HPP.out rfl,by have h1:=(Q1.out false).2;show ys.length≤k+1;simp at hpl;omega⟩
         ·have hc2:c=true:=bool_other hc
          subst hc2
          exact⟨HQE.out.1.2,by have h1:=HQE.out.2;show xs'.length≤k+1;omega⟩
        ·show _∧_
         rw [htk,HOUT.out,hxl]
         have hb:=meet_block (es.take k) ⟨false,si,sf,st⟩ (fun o ho=>by
          obtain⟨i,hi,rfl⟩:=List.getElem_of_mem ho
          simp at hi
          have h1:=List.pairwise_iff_getElem.1 HSO.out i k (by omega) hkl (by omega)
          rw [←HS.out]at h1
          simpa using h1) (fun o ho=>(HKN.out o (List.mem_of_mem_take ho)).1) HKS.out.1
         refine⟨List.Perm.trans ?_ (allPairs_snoc meet (es.take k) ⟨false,si,sf,st⟩).symm,?_⟩
         ·rw [hb]
          exact P1.out.1.append (HQE.out.1.1.map _)
         ·have h1:=P1.out.2
          have h2:=HM.out
          simp
          omega
   ·have hsl:=HKS0.out
    obtain⟨hvs,hss,hes,hi1,hf1,ht1⟩:=hsl
    dsimp only at hvs hss hes hi1 hf1 ht1
    simp only [↓reduceIte]at hi1 hf1 ht1
    obtain⟨bS,oS,rfl⟩:=HPB.out (by decide) (by omega)
    obtain⟨d1,d2⟩:=ends_at HB.out si hi1
    rw [hf1]at d1
    rw [ht1]at d2
    have D1:=Lib.hid d1
    have D2:=Lib.hid d2
    have HKS:=Lib.hid (show okEv ⟨true,si,sf,st⟩=true∧okS ⟨true,si,sf,st⟩∧okE ⟨true,si,sf,st⟩from ⟨hvs,hss,hes⟩)
    have hsi:si<b.length:=hi1
    have hSi:(si:Int)<(b.length:Int):=by omega
    have wS:IntKind.i64.wrap (si:Int)=(si:Int):=by rw [IntKind.wrap_i64];have:=HL.out;omega
    clear d1 d2 hvs hss hes hi1 hf1 ht1
    have hc0:sideI true=1:=rfl
    rw [hc0]at c1
    have e0:=cell_lt c0
    clear hc0
    go_wp2_with fail
    have X1:Ext wr (wr.alloc (.cells #[.int .i64 sf,.int .i64 1,.int .i64 si] 246)):=(Ext.refl wr).alloc _
    have S5:=Lib.hid (S1.out.grow X1)
    have K5:=Lib.hid (Kept.new wr sf 1 si 246)
    have hE1:wr.heap.size<(wr.alloc (.cells #[.int .i64 sf,.int .i64 1,.int .i64 si] 246)).heap.size:=by simp
    have HU:=Lib.hid (show (∀c k,(u c).ownBlock=some k→k<wr.heap.size)∧(∀k,vo'.ownBlock=some k→k<wr.heap.size)∧qb<wr.heap.size from ⟨fun c k hk=>((S1.out.qs c).own.lt k hk).2,fun k hk=>(S1.out.out.lt k hk).2,S1.out.qsz⟩)
    clear S1 X1 c0 c1 c2 e0
    generalize wr.alloc (.cells #[.int .i64 sf,.int .i64 1,.int .i64 si] 246)=w5 at S5 K5 hE1 ⊢
    generalize wr.heap.size=E1 at K5 hE1 HU ⊢
    have HE1:=Lib.hid hE1
    have c0:=K5.out.c0
    have c1:=K5.out.c1
    go_region_with (first | (go_at_call 178;refine(expire_act qb 0 B sf (u false) (q false) _ (by exact(S5.out.qs false).grow (Ext.refl w5).drew) (S5.out.hp false) (by have:=(Q1.out false).2;have:=HN.out;omega)).mono ?_;rintro e w6 ⟨rfl,u',xs',hq',hh',hp',hub,hch,hot⟩))
    have QE:=(Q1.out false).1.expire (x:=sf) (fun e he=>by
     obtain⟨i,hi,rfl⟩:=List.getElem_of_mem he
     simp at hi
     have h1:=List.pairwise_iff_getElem.1 HSO.out i k (by omega) hkl (by omega)
     rw [←HS.out]at h1
     simpa using h1) hp' ⟨true,si,sf,st⟩ rfl rfl
    have HX:=Lib.hid (show ∀o∈xs',o.side=false∧Known a b o∧o.from_≤sf∧sf<o.to_ from fun o ho=>by
     have h1:=List.mem_filter.1 (QE.1.mem_iff.1 ho)
     have h2:=h1.2
     simp only [Bool.and_eq_true,beq_iff_eq,decide_eq_true_eq]at h2
     refine⟨h2.1,HKN.out o (List.mem_of_mem_take h1.1),?_,h2.2⟩
     obtain⟨i,hi,rfl⟩:=List.getElem_of_mem h1.1
     simp at hi
     have h3:=List.pairwise_iff_getElem.1 HSO.out i k (by omega) hkl (by omega)
     rw [←HS.out]at h3
     simpa using h3)
    have HQE:=Lib.hid (And.intro QE (show xs'.length≤k from by
     have h1:=hp'.length_eq
     have h2:=List.length_filter_le (fun e:Ev=>decide (sf<e.to_)) (q false)
     have h3:=(Q1.out false).2
     omega))
    have S6:=Lib.hid ((S5.out.grow (Ext.refl w5).drew).queue (c:=false) hq' hh' (.inl hub) hch hot)
    have K6:=Lib.hid ((K5.out.grow (Ext.refl w5).drew).chg hch (by
     rintro(h | h)
     ·have:=HU.out.2.2;omega
     ·have:=HU.out.1 _ _ h;omega))
    have hz6:=hch.size
    have hE6:E1<w6.heap.size:=by simp at hz6;omega
    have cq:=hq'.cell
    obtain⟨pq,kq,rfl,hpq⟩:=hq'.own.shapeLen
    obtain⟨M,hM⟩ : ∃M,M=xs'.length:=⟨_,rfl⟩
    rw [←hM]at cq S6 hpq
    have HPQ:=Lib.hid hpq
    have HM:=Lib.hid (show M=xs'.length∧M≤200 from ⟨hM,by have:=HQE.out.2;have:=HN.out;omega⟩)
    have HVO:=Lib.hid (show vo'.ownBlock≠some E1 from fun h=>by have:=HU.out.2.1 _ h;omega)
    have hM50:M≤200:=HM.out.2
    clear QE hq' hh' hp' hub hch hot hpq hM hz6 c0 c1 S5 K5
    go_wp2_with fail
    go_loopg [8,46] M (fun gk vo2v vj wr=> ∃(j:Nat) (vo2:Value),j≤M∧gk=M - j∧vj = .int .i64 j∧vo2=vo2v∧Hid (Sweep w wr sb qb B (.slice pa a.length ca) (.slice (some ⟨bS,oS,none⟩) b.length cb) (.slice (some ⟨g3,0,none⟩) N k3) es (upd q false xs') (upd u false (.slice pq M kq)) vo2 (out++(xs'.take j).map fun o=>mkPair o ⟨true,si,sf,st⟩)) ∧
     Hid (Kept wr E1 sf 1 si∧vo2.ownBlock≠some E1∧E1<wr.heap.size))
    case atStart=>exact⟨0,_,by omega,rfl,rfl,rfl,(by show Sweep _ _ _ _ _ _ _ _ _ _ _ _ _;rw [List.take_zero,List.map_nil,List.append_nil];exact S6.out),⟨K6.out,HVO.out,hE6⟩⟩
    case round =>
     clear S6 K6
     obtain⟨j,vo2,hj,rfl,rfl,rfl,SJ,KJ⟩:=hrel
     obtain⟨OUT,hOUT⟩ : ∃l,l=out++(xs'.take j).map fun o=>mkPair o ⟨true,si,sf,st⟩:=⟨_,rfl⟩
     rw [←hOUT]at SJ
     have HOL:=Lib.hid (show OUT.length≤50000 from by rw [hOUT];have h1:=P1.out.2;have h2:=HM.out;have h3:=HN.out;simp;omega)
     have HOUT:=Lib.hid hOUT
     clear hOUT
     by_cases hlj:j<M
     ·have hjl:j<xs'.length:=by have:=HM.out;omega
      obtain⟨gq,rfl,_⟩:=HPQ.out (by omega)
      have hQ:=SJ.out.qs false
      rw [upd_same,upd_same]at hQ
      obtain⟨q0,q1⟩:=act_at hQ.own.slice j hjl
      clear hQ
      obtain⟨o,ho⟩ : ∃o,o=xs'[j]:=⟨_,rfl⟩
      have hom:o∈xs':=by rw [ho];exact List.getElem_mem _
      rw [←ho]at q0 q1
      have HOJ:=Lib.hid ho
      clear ho
      have hk2:=HX.out o hom
      obtain⟨oc,oi,of,ot⟩:=o
      obtain⟨rfl,hko,hfo,hto⟩:=hk2
      obtain⟨hv2,hs2,he2,hi2,hf2,ht2⟩:=hko
      dsimp only at q0 q1 hv2 hs2 he2 hi2 hf2 ht2 hfo hto
      simp only [Bool.false_eq_true,↓reduceIte]at hi2 hf2 ht2
      obtain⟨bO,oO,rfl⟩:=HPA.out (by decide) (by omega)
      obtain⟨g1,g2⟩:=ends_at HA.out oi hi2
      rw [hf2]at g1
      rw [ht2]at g2
      have G1:=Lib.hid g1
      have G2:=Lib.hid g2
      obtain⟨pf,hpf⟩ : ∃x,x=max of sf:=⟨_,rfl⟩
      obtain⟨pt,hpt⟩ : ∃x,x=min ot st:=⟨_,rfl⟩
      have HI:=Lib.hid (show interV of ot sf st = .tuple #[.agg #[.int .i64 pf,.int .i64 pt],.bool true]from interV_yes (a:=of) (b:=ot) (c:=sf) (d:=st) (x:=pf) (y:=pt) (by have h1:=HKS.out;have h2:=validB_lt hv2;have h3:=validB_lt h1.1;simp only [interB,Bool.and_eq_true,decide_eq_true_eq];refine⟨⟨?_,?_⟩,by dsimp only at *;omega⟩ <;> first | exact hv2 | exact h1.1) (by omega) (by omega))
      have HY:=Lib.hid (show mkPair ⟨false,oi,of,ot⟩ ⟨true,si,sf,st⟩=⟨oi,si,pf,pt⟩from by simp [mkPair,hpf,hpt])
      have HOK:=Lib.hid (show okP ⟨oi,si,pf,pt⟩from by have h1:=HKS.out;have a1:=h1.2.1;have a2:=h1.2.2;simp only [okS,okE]at a1 a2 hs2 he2;simp only [okP];omega)
      have hAi:(oi:Int)<(a.length:Int):=by omega
      have hBi:(si:Int)<(b.length:Int):=by omega
      have wA:IntKind.i64.wrap (oi:Int)=(oi:Int):=by rw [IntKind.wrap_i64];have:=HL.out;omega
      have wB:IntKind.i64.wrap (si:Int)=(si:Int):=by rw [IntKind.wrap_i64];have:=HL.out;omega
      have hd2:decide ((j:Int)<(M:Int))=true:=by simp;omega
      have HLJ:=Lib.hid hlj
      have c0:=KJ.out.1.c0
      have c1:=KJ.out.1.c1
      have c2:=KJ.out.1.c2
      have e1:=cell_lt c0
      have e2:=cell_lt q0
      clear hpf hpt hv2 hs2 he2 hf2 ht2 hfo hto g1 g2 hom hlj
      go_wp2_with fail
      have X6:Ext wr ((wr.alloc (.cells #[.int .i64 oi,.int .i64 ot] 256)).alloc (.cells #[.int .i64 0,.int .i64 0] 257)):=((Ext.refl wr).alloc _).alloc _
      have m0:((wr.alloc (.cells #[.int .i64 oi,.int .i64 ot] 256)).alloc (.cells #[.int .i64 0,.int .i64 0] 257)).cell? ⟨wr.heap.size,0,none⟩=some (.int .i64 oi):=by go_simp
      have i0:((wr.alloc (.cells #[.int .i64 oi,.int .i64 ot] 256)).alloc (.cells #[.int .i64 0,.int .i64 0] 257)).cell? ⟨wr.heap.size+1,0,none⟩=some (.int .i64 0):=by simp
      have i1:((wr.alloc (.cells #[.int .i64 oi,.int .i64 ot] 256)).alloc (.cells #[.int .i64 0,.int .i64 0] 257)).cell? ⟨wr.heap.size+1,1,none⟩=some (.int .i64 0):=by simp
      have f0:((wr.alloc (.cells #[.int .i64 oi,.int .i64 ot] 256)).alloc (.cells #[.int .i64 0,.int .i64 0] 257)).frozen? ⟨wr.heap.size+1,0,none⟩=false:=by simp
      have f1:((wr.alloc (.cells #[.int .i64 oi,.int .i64 ot] 256)).alloc (.cells #[.int .i64 0,.int .i64 0] 257)).frozen? ⟨wr.heap.size+1,1,none⟩=false:=by simp
      replace c1:=X6.at c1
      replace c2:=X6.at c2
      have XX6:=Lib.hid X6
      have hz6:wr.heap.size+2=((wr.alloc (.cells #[.int .i64 oi,.int .i64 ot] 256)).alloc (.cells #[.int .i64 0,.int .i64 0] 257)).heap.size:=by simp
      clear X6 q0 q1 c0 e2
      generalize (wr.alloc (.cells #[.int .i64 oi,.int .i64 ot] 256)).alloc (.cells #[.int .i64 0,.int .i64 0] 257)=W6 at m0 i0 i1 f0 f1 c1 c2 XX6 hz6 ⊢
      have HZ6:=Lib.hid hz6
      generalize hib:wr.heap.size+1=ib at i0 i1 f0 f1 ⊢
      have HIB:=Lib.hid (show wr.heap.size≤ib∧ib<W6.heap.size from by omega)
      have n1 : ¬wr.heap.size=ib:=by omega
      have n2 : ¬E1=ib:=by omega
      have n3 : ¬ib=wr.heap.size:=by omega
      have n4 : ¬ib=E1:=by omega
      clear hz6 hib
      go_big_region_o
      all_goals go_wp2_with fail
      have X7:Ext wr ((W6.setCell ⟨ib,1,none⟩ (.int .i64 si)).setCell ⟨ib,0,none⟩ (.int .i64 oi)).drew:=(Below.setCell (Below.setCell XX6.out HIB.out.1 _) HIB.out.1 _).drew
      have a0:((W6.setCell ⟨ib,1,none⟩ (.int .i64 si)).setCell ⟨ib,0,none⟩ (.int .i64 oi)).drew.cell? ⟨ib,0,none⟩=some (.int .i64 oi):=by go_simp
      have a1:((W6.setCell ⟨ib,1,none⟩ (.int .i64 si)).setCell ⟨ib,0,none⟩ (.int .i64 oi)).drew.cell? ⟨ib,1,none⟩=some (.int .i64 si):=by go_simp
      have XX7:=Lib.hid X7
      clear i0 i1 f0 f1 m0 c1 c2 XX6 HZ6 n1 n2 n3 n4
      generalize ((W6.setCell ⟨ib,1,none⟩ (.int .i64 si)).setCell ⟨ib,0,none⟩ (.int .i64 oi)).drew=W7 at X7 XX7 a0 a1 ⊢
      have d1:=(SJ.out.ext.trans X7).at D1.out
      have d2:=(SJ.out.ext.trans X7).at D2.out
      have g1:=(SJ.out.ext.trans X7).at G1.out
      have g2:=(SJ.out.ext.trans X7).at G2.out
      clear X7
      have e3:=cell_lt a0
      have e4:=cell_lt d1
      have e5:=cell_lt g1
      have mkS : ∀w',Ext W7 w'→Ext W7 w'∧w'.cell? ⟨ib,0,none⟩=some (.int .i64 oi)∧w'.cell? ⟨ib,1,none⟩=some (.int .i64 si)∧w'.cell? ⟨bS,oS+si*4+1,none⟩=some (.int .i64 sf)∧w'.cell? ⟨bS,oS+si*4+2,none⟩=some (.int .i64 st)∧w'.cell? ⟨bO,oO+oi*4+1,none⟩=some (.int .i64 of)∧w'.cell? ⟨bO,oO+oi*4+2,none⟩=some (.int .i64 ot) :=
       fun w' h=>⟨h,h.at a0,h.at a1,h.at d1,h.at d2,h.at g1,h.at g2⟩
      have MK:=Lib.hid mkS
      have hS0:=mkS _ (Ext.refl W7).drew
      clear mkS e1 e3 e4 e5 d1 d2 g1 g2
      go_region_held3 (fun w'=>Ext W7 w'∧w'.cell? ⟨ib,0,none⟩=some (.int .i64 oi)∧w'.cell? ⟨ib,1,none⟩=some (.int .i64 si)∧w'.cell? ⟨bS,oS+si*4+1,none⟩=some (.int .i64 sf)∧w'.cell? ⟨bS,oS+si*4+2,none⟩=some (.int .i64 st)∧w'.cell? ⟨bO,oO+oi*4+1,none⟩=some (.int .i64 of)∧w'.cell? ⟨bO,oO+oi*4+2,none⟩=some (.int .i64 ot))
       (first |with_reducible assumption | with_reducible exact MK.out _ (Ext.trans (And.left (by assumption)) x8) | with_reducible exact MK.out _ (Ext.alloc (And.left (by assumption)) _) | with_reducible exact MK.out _ (Ext.alloc (Ext.trans (And.left (by assumption)) x8) _) | with_reducible exact MK.out _ (Below.setCell (Below.setCell (Ext.alloc (And.left (by assumption)) _) (Below.size (And.left (by assumption))) _) (Below.size (And.left (by assumption))) _) | with_reducible exact MK.out _ (Below.setCell (Below.setCell (And.left (by assumption)) (Nat.le_refl _) _) (Nat.le_refl _) _) | exact y9 _ _ | exact z9 _)
       (first |(go_at_call 102;refine(intersect_any _ _ _ _ _).mono ?_;rintro e w8 ⟨rfl,x8⟩;rw [HI.out];have hw9:Ext W7 w8:=Ext.trans (And.left (by assumption)) x8;have y9:=fun u0 u1=>MK.out _ (ext_two (u0:=u0) (u1:=u1) hw9 (Ext.refl w8));have z9:=fun o=>MK.out _ (Ext.alloc hw9 o);first | (have t9:=two_new_drew x8;have t0:=t9.1;have t1:=t9.2.1;have t2:=t9.2.2.1;have t3:=t9.2.2.2;clear t9) | skip))
      ·have s9:=z9 (.cells #[.int .i64 pf,.int .i64 pt] 94)
       have F0:(w8.alloc (.cells #[.int .i64 pf,.int .i64 pt] 94)).cell? ⟨w8.heap.size,0,none⟩=some (.int .i64 pf):=by simp
       have F1:(w8.alloc (.cells #[.int .i64 pf,.int .i64 pt] 94)).cell? ⟨w8.heap.size,1,none⟩=some (.int .i64 pt):=by simp
       have XF:=Lib.hid (XX7.out.trans s9.1)
       have b0:=s9.2.1
       have b1:=s9.2.2.1
       clear hw9 y9 z9 x8 s9 a0 a1 hS0
       generalize w8.alloc (.cells #[.int .i64 pf,.int .i64 pt] 94)=W9 at *
       generalize w8.heap.size=tb at F0 F1 ⊢
       have hol:=HOL.out
       have B1:OUT.length + [(⟨oi,si,pf,pt⟩:Pair)].length≤maxLen:=by simp [maxLen];omega
       have B2:(OUT.length + [(⟨oi,si,pf,pt⟩:Pair)].length)*32≤140737488355328:=by simp;omega
       clear hol
       go_wp2_with (at_builtin;refine wpList_append_all Rep.pair (fun _=>True) rfl _ _ 194 rfl B 197 i9 _ 32 Tryz.underlying194 hi9 hz9 hz91 hz92 rfl (by decide) vo2 OUT rfl (by exact SJ.out.out.ext (XF.out.alloc _)) _ [⟨oi,si,pf,pt⟩] rfl (by exact lone_flat (T:=197) (cs:=pairEnc ⟨oi,si,pf,pt⟩) flat_pair ⟨rfl,HOK.out⟩ (SJ.out.out.ext XF.out)) B1 B2 (by exact Nat.le_trans SJ.out.base (XF.out.alloc _).size) ?_)
       intro v' w10 own gr hat
       have XG:=XF.out.alloc (.cells #[.int .i64 (oi:Nat),.int .i64 (si:Nat),.int .i64 pf,.int .i64 pt] 197)
       have hat2:v'.ownBlock=vo2.ownBlock∨v'.ownBlock=some (W9.alloc (.cells #[.int .i64 (oi:Nat),.int .i64 (si:Nat),.int .i64 pf,.int .i64 pt] 197)).heap.size:=by
        rcases hat with h | h
        ·exact .inl h
        ·exact .inr (by rw [h];simp)
       have SN:=Lib.hid ((SJ.out.grow XG).push own gr hat2)
       clear hat2
       have KN:=Lib.hid (show Kept w10 E1 sf 1 si∧v'.ownBlock≠some E1∧E1<w10.heap.size from
        ⟨(KJ.out.1.grow XG).chg (chg_grown gr) KJ.out.2.1,by
         rcases hat with hat | hat
         ·rw [hat];exact KJ.out.2.1
         ·rw [hat]
          intro e
          injection e with e
          have h1:=XF.out.size
          have h2:=KJ.out.2.2
          omega,by
         have h1:=XG.size
         have h2:=KJ.out.2.2
         have h3:=gr.size
         omega⟩)
       clear own gr hat XG b0 b1 F0 F1
       go_wp2_with fail
       go_roundg (M - (j+1))
       case measure=>have:=HLJ.out;omega
       case rel =>
        refine⟨j+1,v',by have:=HLJ.out;omega,rfl,by go_num,rfl,?_,KN.out⟩
        show Sweep _ _ _ _ _ _ _ _ _ _ _ _ _
        have hjl:j<xs'.length:=by have h1:=HM.out;have h2:=HLJ.out;omega
        have hl:out++(xs'.take (j+1)).map (fun o=>mkPair o ⟨true,si,sf,st⟩)=OUT ++ [⟨oi,si,pf,pt⟩]:=by
         rw [List.take_succ_eq_append_getElem hjl,List.map_append,←List.append_assoc,←HOUT.out,List.map_cons,List.map_nil,←HOJ.out,HY.out]
        rw [hl]
        exact SN.out
      ·have s9:=y9 (.int .i64 pf) (.int .i64 pt)
       have F0:((w8.setCell ⟨W7.heap.size,0,none⟩ (.int .i64 pf)).setCell ⟨W7.heap.size,1,none⟩ (.int .i64 pt)).cell? ⟨W7.heap.size,0,none⟩=some (.int .i64 pf):=by
        rw [World.cell?_setCell_other _ _ _ _ (by simp),World.cell?_setCell_same' _ _ _ (by rw [t0];rfl)]
       have F1:((w8.setCell ⟨W7.heap.size,0,none⟩ (.int .i64 pf)).setCell ⟨W7.heap.size,1,none⟩ (.int .i64 pt)).cell? ⟨W7.heap.size,1,none⟩=some (.int .i64 pt) :=
        World.cell?_setCell_same' _ _ _ (by rw [World.cell?_setCell_other _ _ _ _ (by simp),t1];rfl)
       have XF:=Lib.hid (XX7.out.trans s9.1)
       have b0:=s9.2.1
       have b1:=s9.2.2.1
       clear hw9 y9 z9 x8 s9 a0 a1 hS0 t0 t1 t2 t3
       generalize (w8.setCell ⟨W7.heap.size,0,none⟩ (.int .i64 pf)).setCell ⟨W7.heap.size,1,none⟩ (.int .i64 pt)=W9 at *
       generalize W7.heap.size=tb at F0 F1 ⊢
       have hol:=HOL.out
       have B1:OUT.length + [(⟨oi,si,pf,pt⟩:Pair)].length≤maxLen:=by simp [maxLen];omega
       have B2:(OUT.length + [(⟨oi,si,pf,pt⟩:Pair)].length)*32≤140737488355328:=by simp;omega
       clear hol
       go_wp2_with (at_builtin;refine wpList_append_all Rep.pair (fun _=>True) rfl _ _ 194 rfl B 197 i9 _ 32 Tryz.underlying194 hi9 hz9 hz91 hz92 rfl (by decide) vo2 OUT rfl (by exact SJ.out.out.ext (XF.out.alloc _)) _ [⟨oi,si,pf,pt⟩] rfl (by exact lone_flat (T:=197) (cs:=pairEnc ⟨oi,si,pf,pt⟩) flat_pair ⟨rfl,HOK.out⟩ (SJ.out.out.ext XF.out)) B1 B2 (by exact Nat.le_trans SJ.out.base (XF.out.alloc _).size) ?_)
       intro v' w10 own gr hat
       have XG:=XF.out.alloc (.cells #[.int .i64 (oi:Nat),.int .i64 (si:Nat),.int .i64 pf,.int .i64 pt] 197)
       have hat2:v'.ownBlock=vo2.ownBlock∨v'.ownBlock=some (W9.alloc (.cells #[.int .i64 (oi:Nat),.int .i64 (si:Nat),.int .i64 pf,.int .i64 pt] 197)).heap.size:=by
        rcases hat with h | h
        ·exact .inl h
        ·exact .inr (by rw [h];simp)
       have SN:=Lib.hid ((SJ.out.grow XG).push own gr hat2)
       clear hat2
       have KN:=Lib.hid (show Kept w10 E1 sf 1 si∧v'.ownBlock≠some E1∧E1<w10.heap.size from
        ⟨(KJ.out.1.grow XG).chg (chg_grown gr) KJ.out.2.1,by
         rcases hat with hat | hat
         ·rw [hat];exact KJ.out.2.1
         ·rw [hat]
          intro e
          injection e with e
          have h1:=XF.out.size
          have h2:=KJ.out.2.2
          omega,by
         have h1:=XG.size
         have h2:=KJ.out.2.2
         have h3:=gr.size
         omega⟩)
       clear own gr hat XG b0 b1 F0 F1
       go_wp2_with fail
       go_roundg (M - (j+1))
       case measure=>have:=HLJ.out;omega
       case rel =>
        refine⟨j+1,v',by have:=HLJ.out;omega,rfl,by go_num,rfl,?_,KN.out⟩
        show Sweep _ _ _ _ _ _ _ _ _ _ _ _ _
        have hjl:j<xs'.length:=by have h1:=HM.out;have h2:=HLJ.out;omega
        have hl:out++(xs'.take (j+1)).map (fun o=>mkPair o ⟨true,si,sf,st⟩)=OUT ++ [⟨oi,si,pf,pt⟩]:=by
         rw [List.take_succ_eq_append_getElem hjl,List.map_append,←List.append_assoc,←HOUT.out,List.map_cons,List.map_nil,←HOJ.out,HY.out]
        rw [hl]
        exact SN.out
     ·have hjM:j=M:=by omega
      have hd2 : ¬(j:Int)<(M:Int):=by omega
      have hd3:M≤j:=by omega
      have hS5:=(SJ.out.qs true).grow (Ext.refl wr).drew
      have hcall:=heapPush_act qb 1 B (u true) (q true) ⟨true,si,sf,st⟩ wr.drew hS5 (SJ.out.hp true) HKS.out.2.2 (by have h1:=(Q1.out true).2;have h2:=HN.out;omega)
      have NC:=Lib.hid (show ∀k,(k=qb∨(u true).ownBlock=some k)→k≠E1∧k≠sb∧k≠bS from fun k hk=>by
       have h1:=SJ.out.qbB
       have h2:=SJ.out.sbB
       have h3:=World.block_lt_of_cell? w _ D2.out
       have h4:=HU.out
       simp only at h3
       rcases hk with rfl | hk
       ·omega
       ·have h5:=(hS5.own.lt k hk).1
        have h6:=h4.1 _ _ hk
        omega)
      have c1:=KJ.out.1.c1
      have c2:=KJ.out.1.c2
      have c3:=SJ.out.s1
      have c4:=SJ.out.ext.at D2.out
      have e1:=cell_lt c1
      have e3:=cell_lt c3
      have e4:=cell_lt c4
      have SD:=Lib.hid (SJ.out.grow (Ext.refl wr).drew)
      have HJM:=Lib.hid hjM
      clear hjM hS5 hlj SJ
      go_wp2_with fail
      have hS0:wr.drew.cell? ⟨E1,1,none⟩=some (.int .i64 1)∧wr.drew.cell? ⟨E1,2,none⟩=some (.int .i64 si)∧wr.drew.cell? ⟨sb,1,none⟩=some (.slice (some ⟨bS,oS,none⟩) b.length cb)∧wr.drew.cell? ⟨bS,oS+si*4+2,none⟩=some (.int .i64 st):=⟨c1,c2,c3,c4⟩
      clear c1 c2 c3 c4
      go_region_held3 (fun w'=>w'.cell? ⟨E1,1,none⟩=some (.int .i64 1)∧w'.cell? ⟨E1,2,none⟩=some (.int .i64 si)∧w'.cell? ⟨sb,1,none⟩=some (.slice (some ⟨bS,oS,none⟩) b.length cb)∧w'.cell? ⟨bS,oS+si*4+2,none⟩=some (.int .i64 st))
       (first |with_reducible assumption | exact y9)
       (first |(go_at_call 179;refine hcall.mono ?_;rintro e w11 ⟨rfl,v',ys,hq',hh',hp',hat,hch,hot⟩;have y9:w11.cell? ⟨E1,1,none⟩=some (.int .i64 1)∧w11.cell? ⟨E1,2,none⟩=some (.int .i64 si)∧w11.cell? ⟨sb,1,none⟩=some (.slice (some ⟨bS,oS,none⟩) b.length cb)∧w11.cell? ⟨bS,oS+si*4+2,none⟩=some (.int .i64 st):=⟨hch.at hS0.1 (fun h=>(NC.out _ h).1 rfl),hch.at hS0.2.1 (fun h=>(NC.out _ h).1 rfl),hch.at hS0.2.2.1 (fun h=>(NC.out _ h).2.1 rfl),hch.at hS0.2.2.2 (fun h=>(NC.out _ h).2.2 rfl)⟩))
      all_goals
       have SN:=Lib.hid (SD.out.queue (c:=true) hq' hh' hat hch hot)
       have HPP:=Lib.hid hp'
       clear hq' hh' hat hch hot hp' y9 hS0 hcall NC
       go_wp2_with fail
       go_roundg (N - (k+1))
       case measure=>omega
       case rel =>
        have hpl:=HPP.out.length_eq
        have htk:es.take (k+1)=es.take k ++ [⟨true,si,sf,st⟩]:=by rw [List.take_succ_eq_append_getElem hkl,←HS.out]
        have hxl:xs'.take j=xs':=List.take_of_length_le (by have h1:=HM.out;have h2:=HJM.out;omega)
        have hsn:=SN.out
        refine⟨k+1,_,_,OUT,vo2,by omega,rfl,by go_num,rfl,hsn,?_,?_⟩
        ·show ∀c,_∧_
         rw [htk]
         intro c
         by_cases hc:c=true
         ·subst hc
          exact⟨(Q1.out true).1.push HPP.out rfl,by have h1:=(Q1.out true).2;show ys.length≤k+1;simp at hpl;omega⟩
         ·have hc2:c=false:=bool_other hc
          subst hc2
          exact⟨HQE.out.1.2,by have h1:=HQE.out.2;show xs'.length≤k+1;omega⟩
        ·show _∧_
         rw [htk,HOUT.out,hxl]
         have hb:=meet_block (es.take k) ⟨true,si,sf,st⟩ (fun o ho=>by
          obtain⟨i,hi,rfl⟩:=List.getElem_of_mem ho
          simp at hi
          have h1:=List.pairwise_iff_getElem.1 HSO.out i k (by omega) hkl (by omega)
          rw [←HS.out]at h1
          simpa using h1) (fun o ho=>(HKN.out o (List.mem_of_mem_take ho)).1) HKS.out.1
         refine⟨List.Perm.trans ?_ (allPairs_snoc meet (es.take k) ⟨true,si,sf,st⟩).symm,?_⟩
         ·rw [hb]
          exact P1.out.1.append (HQE.out.1.1.map _)
         ·have h1:=P1.out.2
          have h2:=HM.out
          simp
          omega
  ·have hkN:k=N:=by omega
   subst hkN
   have hd : ¬(k:Int)<(k:Int):=by omega
   have hnn:=HN.out
   have htk:es.take k=es:=by rw [hnn.1,List.take_length]
   have HTK:=Lib.hid htk
   have HSL:=Lib.hid (show out.length<4611686018427387904 from by have h1:=P1.out.2;omega)
   clear hnn htk
   go_wp2_with fail
   refine(sortPairs_any _ _ _ _ _ _ S1.out.out HSL.out).mono ?_
   rintro e w12 ⟨ys,rfl,hp,hso,ho,hg⟩
   have hBw:w.heap.size≤B:=by have h1:=S1.out.qbB;omega
   have X:=Lib.hid ((chg_grown hg).below S1.out.ext fun b hb=>by have h1:=(S1.out.out.lt b hb).1;omega)
   have hys:ys=pairsOf a b:=pairs_unique (hp.trans (P1.out.1.trans (by rw [HTK.out];exact sweep_raw HPM.out))) hso
   have hv:=(ho.weak (T:=fun _=>True) (fun _ _ h=>h) hBw).fresh flat_pair
   rw [hys]at hv
   have HV:=Lib.hid hv
   clear hp hso ho hg hBw hys hv
   go_wp2_with fail
   go_ret
   exact⟨_,rfl,HV.out,X.out⟩
end Go.Proofs.YtkddkbpoefidpaaGreatDoor
