/- joined texts of a proof: SubW, MatW, InnW -/
import Derived.Test.YtkddkbpoefidpaaGreatDoorKI16
import Derived.Test.YtkddkbpoefidpaaGreatDoorKI05
import Derived.Test.YtkddkbpoefidpaaGreatDoorKI09
import Derived.Test.YtkddkbpoefidpaaGreatDoorKI21
import Derived.Test.YtkddkbpoefidpaaGreatDoorKI22
import Derived.Test.YtkddkbpoefidpaaGreatDoorKI11
import Derived.Test.YtkddkbpoefidpaaGreatDoorKI23
import Derived.Test.YtkddkbpoefidpaaGreatDoorKI18
namespace Go.Proofs.YtkddkbpoefidpaaGreatDoor
open Go.RowKit
theorem cells_new2 (w:World) (o:Obj) (xs:List Value) (T:TypeId) : ∀j u,xs[j]?=some u→((w.alloc o).alloc (.cells xs.toArray T)).cell? ((⟨w.heap.size+1,0,none⟩:Addr).add j)=some u:=by
 have h:=cells_new (w.alloc o) xs T
 rw [show (w.alloc o).heap.size=w.heap.size+1 by simp]at h
 exact h
def subUpto (A B:List Per) (k:Nat):List Per:=(A.take k).flatMap fun p=>subP1 p.to_ p.from_ B
theorem subUpto_snoc (A B:List Per) (k:Nat) (h:k<A.length):subUpto A B (k+1)=subUpto A B k++subP1 A[k].to_ A[k].from_ B:=by
 unfold subUpto
 rw [List.take_succ_eq_append_getElem h,List.flatMap_append,List.flatMap_cons,List.flatMap_nil,List.append_nil]
theorem subP1_len (tz:Int) : ∀(B:List Per) (f:Int),(subP1 tz f B).length≤B.length+1:=by
 intro B
 induction B with
 |nil=>intro f;unfold subP1;split <;> simp
 |cons q B ih =>
  intro f
  unfold subP1
  split
  ·have:=ih f;simp;omega
  ·have:=ih q.to_
   rw [List.length_append,List.length_cons]
   split <;> simp <;> omega
theorem subUpto_len (A B:List Per) (k:Nat):(subUpto A B k).length≤A.length*(B.length+1):=by
 have h : ∀l:List Per,(l.flatMap fun p=>subP1 p.to_ p.from_ B).length≤l.length*(B.length+1):=fun l=>by
  induction l with
  |nil=>simp
  |cons p l ih =>
   rw [List.flatMap_cons,List.length_append,List.length_cons,Nat.succ_mul]
   have:=subP1_len p.to_ B p.from_
   omega
 refine Nat.le_trans (h _) (Nat.mul_le_mul_right _ ?_)
 exact List.length_take_le' _ _
set_option maxRecDepth 100000 in
set_option maxHeartbeats 8000000 in
theorem subtract_any (va vb:Value) (la lb:List Per) (w:World) (ha:SliceOf Rep.per w.cell? va la) (hb:SliceOf Rep.per w.cell? vb lb) (hl:la.length≤20000) (hl2:lb.length≤20000) :
  Calls Tryz.prog 76 #[va,vb] w fun e w'=> ∃v',e = .returned v'∧OwnOf Rep.per w' (fun _=>True) w.heap.size 94 v' (subPs la lb)∧Ext w w':=by
 obtain⟨i1,hi1,hz10,hz11,hz12⟩:=info_parts info_per
 have HA:=Lib.hid ha
 have HB:=Lib.hid hb
 have HL:=Lib.hid (And.intro hl hl2)
 obtain⟨p0,q0,rfl,_⟩:=ha.form
 obtain⟨p1,q1,rfl,_⟩:=hb.form
 obtain⟨n0,hn0⟩ : ∃n,n=la.length:=⟨_,rfl⟩
 obtain⟨n1,hn1⟩ : ∃n,n=lb.length:=⟨_,rfl⟩
 rw [←hn0]at HA ⊢
 rw [←hn1]at HB ⊢
 clear ha hb hl hl2 hn0 hn1
 go_enter Tryz.func76,Tryz.ntmps76
 go_wp2_with fail
 refine(norm_any _ lb _ HB.out HL.out.2).mono ?_
 rintro e w1 ⟨u1,rfl,t1,x1⟩
 obtain⟨D,hD⟩ : ∃D,D=refNorm lb:=⟨_,rfl⟩
 have hDl:D.length≤20000:=by rw [hD];exact Nat.le_trans (refNorm_len lb) HL.out.2
 rw [←hD]at t1
 obtain⟨pd,cd,rfl,hd1,hd2,hd3⟩:=t1.form
 obtain⟨nd,hnd⟩ : ∃n,n=D.length:=⟨_,rfl⟩
 have T1:=Lib.hid (t1.ext (on_sub _ _))
 rw [←hnd]at T1 hd3 hDl ⊢
 have HND:=Lib.hid hnd
 have HDF:=Lib.hid hd3
 have HDD:=Lib.hid hD
 have X1:=Lib.hid x1
 clear t1 x1 hnd hd3 hd1 hd2 hD
 go_wp2_with fail
 refine(norm_any _ la _ (HA.out.ext X1.out.full) HL.out.1).mono ?_
 rintro e w2 ⟨u2,rfl,t2,x2⟩
 obtain⟨C,hC⟩ : ∃C,C=refNorm la:=⟨_,rfl⟩
 have hCl:C.length≤20000:=by rw [hC];exact Nat.le_trans (refNorm_len la) HL.out.1
 rw [←hC]at t2
 obtain⟨pc,cc,rfl,hc1,hc2,hc3⟩:=t2.form
 obtain⟨nc,hnc⟩ : ∃n,n=C.length:=⟨_,rfl⟩
 have T2:=Lib.hid (t2.ext (on_sub _ _))
 rw [←hnc]at T2 hc3 hCl ⊢
 have HNC:=Lib.hid hnc
 have HCF:=Lib.hid hc3
 have HCC:=Lib.hid hC
 have X2:=Lib.hid (X1.out.trans x2)
 have T12:=Lib.hid (T1.out.ext x2.full)
 clear t2 x2 hnc hc3 hc1 hc2 hC T1 HA HB
 go_wp2_with fail
 go_loopg [5,16] nc (fun gk vo vi wr=> ∃(k:Nat) (u:Value),k≤nc∧gk=nc - k∧vi = .int .i64 k∧u=vo∧Hid (OwnOf Rep.per wr (fun _=>True) w2.heap.size 94 u (subUpto C D k))∧Ext w2 wr)
 case atStart=>exact⟨0,_,by omega,rfl,rfl,rfl,OwnOf.nil _ _ _ _ _,Ext.refl w2⟩
 case round =>
  obtain⟨k,u,hk,rfl,rfl,rfl,OU,hx⟩:=hrel
  by_cases hlt:k<nc
  ·have hkl:k<C.length:=by have:=HNC.out;omega
   obtain⟨b,o,rfl⟩:=HCF.out (by decide) (by omega)
   have hst:=subUpto_snoc C D k hkl
   obtain⟨c0,c1,r1,r2⟩:=per_at (by have h:=T2.out;exact h) k hkl
   have hlen:=subUpto_len C D k
   generalize C[k]=t at c0 c1 r1 r2 hst
   replace c0:=hx.at c0
   replace c1:=hx.at c1
   obtain⟨f,tz⟩:=t
   dsimp only at c0 c1 r1 r2 hst
   have hd:decide ((k:Int)<(nc:Int))=true:=by simp;omega
   have e0:=cell_lt c0
   obtain⟨ys0,hys0⟩ : ∃ys,ys=subUpto C D k:=⟨_,rfl⟩
   have hyl:ys0.length≤400020000:=by
    have h1:=HNC.out
    have h2:=HND.out
    have h3:C.length*(D.length+1)≤20000*20001:=Nat.mul_le_mul (by omega) (by omega)
    rw [hys0];omega
   rw [←hys0]at OU hst
   have HST:=Lib.hid hst
   have HYL:=Lib.hid hyl
   have HRR:=Lib.hid (And.intro r1 r2)
   have HX:=Lib.hid hx
   clear hst hlen hys0 hyl r1 r2 hx
   go_wp2_with fail
   obtain⟨bp,hbp⟩ : ∃z,z=wr.heap.size:=⟨_,rfl⟩
   have hW4 : ∃W4,W4=wr.alloc (.cells #[.int .i64 f,.int .i64 tz] 94):=⟨_,rfl⟩
   obtain⟨W4,hW4⟩:=hW4
   have A4:=Lib.hid (show Ext w2 W4∧W4.cell? ⟨bp,0,none⟩=some (.int .i64 f)∧W4.cell? ⟨bp,1,none⟩=some (.int .i64 tz)from by rw [hW4,hbp];exact⟨HX.out.alloc _,by go_simp,by go_simp⟩)
   have O4:=Lib.hid (show OwnOf Rep.per W4 (fun _=>True) w2.heap.size 94 u ys0 from by rw [hW4];exact OU.out.ext ((Ext.refl wr).alloc _))
   have HU4:=Lib.hid (show ∀x,u.ownBlock=some x→x≠bp from fun x hx e=>by have:=(OU.out.lt x hx).2;omega)
   rw [←hW4,←hbp]
   clear hW4 hbp c0 c1 e0 OU HX hd
   go_wp2_with fail
   go_loopg [5,8,24] nd (fun gj vo va vi wq=> ∃(j:Nat) (uq:Value) (ys:List Per) (a:Int),j≤nd∧gj=nd - j∧vi = .int .i64 j∧uq=vo∧va = .int .i64 a∧Hid (OwnOf Rep.per wq (fun _=>True) w2.heap.size 94 uq ys)∧Hid (ys++subP1 tz a (D.drop j)=ys0++subP1 tz f D)∧Hid (okI a)∧Hid (ys.length≤ys0.length+j)∧Hid (Ext w2 wq∧wq.cell? ⟨bp,0,none⟩=some (.int .i64 f)∧wq.cell? ⟨bp,1,none⟩=some (.int .i64 tz))∧Hid (∀x,uq.ownBlock=some x→x≠bp))
   case atStart=>exact⟨0,u,ys0,f,by omega,rfl,rfl,rfl,rfl,O4.out,rfl,HRR.out.1,Nat.le_refl _,A4.out,HU4.out⟩
   case round =>
    clear O4 HU4 A4
    obtain⟨j,uq,ys,a,hj,rfl,rfl,rfl,rfl,OI,HCUT,HOA,HLEN,AI,HUXI⟩:=hrel
    obtain⟨hxI,a0,a1⟩:=AI.out
    have HXI:=Lib.hid hxI
    have eb:=cell_lt a0
    have HUL:=Lib.hid (show ∀x,uq.ownBlock=some x→w2.heap.size≤x∧x<wr.heap.size from fun x hx=>OI.out.lt x hx)
    have B1:ys.length+1≤maxLen:=by have h1:=HYL.out;have h2:=HLEN.out;unfold maxLen;omega
    have B2:(ys.length+1)*16≤140737488355328:=by have h1:=HYL.out;have h2:=HLEN.out;omega
    clear hxI
    by_cases hjl:j<nd
    ·have hjr:j<D.length:=by have:=HND.out;omega
     obtain⟨bd,od,rfl⟩:=HDF.out (by decide) (by omega)
     have hyr:D.drop j=D[j]::D.drop (j+1):=List.drop_eq_getElem_cons hjr
     have hcut:=HCUT.out
     rw [hyr,subP1]at hcut
     obtain⟨c0,c1,rq1,rq2⟩:=per_at (by have h:=T12.out;exact h) j hjr
     generalize D[j]=q at c0 c1 rq1 rq2 hcut
     obtain⟨qf,qt⟩:=q
     dsimp only at c0 c1 rq1 rq2 hcut
     have hd:decide ((j:Int)<(nd:Int))=true:=by simp;omega
     replace c0:=HXI.out.at c0
     replace c1:=HXI.out.at c1
     have e0:=cell_lt c0
     clear hyr
     by_cases h1:qt≤a
     ·rw [if_pos (.inl h1)]at hcut
      have HCUT2:=Lib.hid hcut
      have b1:decide (qt≤a)=true:=decide_eq_true h1
      have AJ:=Lib.hid (show Ext w2 (wr.alloc (.cells #[.int .i64 qf,.int .i64 qt] 94))∧(wr.alloc (.cells #[.int .i64 qf,.int .i64 qt] 94)).cell? ⟨bp,0,none⟩=some (.int .i64 f)∧(wr.alloc (.cells #[.int .i64 qf,.int .i64 qt] 94)).cell? ⟨bp,1,none⟩=some (.int .i64 tz)from ⟨HXI.out.alloc _,((Ext.refl wr).alloc _).at a0,((Ext.refl wr).alloc _).at a1⟩)
      have OJ:=Lib.hid (OI.out.ext ((Ext.refl wr).alloc (.cells #[.int .i64 qf,.int .i64 qt] 94)))
      clear hcut HCUT h1 OI
      go_wp2_with fail
      go_roundg (nd - (j+1))
      case measure=>omega
      case rel=>exact⟨j+1,_,ys,a,by omega,rfl,by go_num,rfl,rfl,OJ.out,HCUT2.out,HOA.out,by have:=HLEN.out;show ys.length≤ys0.length+(j+1);omega,AJ.out,HUXI.out⟩
     ·have b1:decide (qt≤a)=false:=decide_eq_false h1
      by_cases h2:tz≤qf
      ·rw [if_pos (.inr h2)]at hcut
       have HCUT2:=Lib.hid hcut
       have b2:decide (tz≤qf)=true:=decide_eq_true h2
       have AJ:=Lib.hid (show Ext w2 (wr.alloc (.cells #[.int .i64 qf,.int .i64 qt] 94))∧(wr.alloc (.cells #[.int .i64 qf,.int .i64 qt] 94)).cell? ⟨bp,0,none⟩=some (.int .i64 f)∧(wr.alloc (.cells #[.int .i64 qf,.int .i64 qt] 94)).cell? ⟨bp,1,none⟩=some (.int .i64 tz)from ⟨HXI.out.alloc _,((Ext.refl wr).alloc _).at a0,((Ext.refl wr).alloc _).at a1⟩)
       have OJ:=Lib.hid (OI.out.ext ((Ext.refl wr).alloc (.cells #[.int .i64 qf,.int .i64 qt] 94)))
       clear hcut HCUT h1 h2 OI
       go_wp2_with fail
       go_roundg (nd - (j+1))
       case measure=>omega
       case rel=>exact⟨j+1,_,ys,a,by omega,rfl,by go_num,rfl,rfl,OJ.out,HCUT2.out,HOA.out,by have:=HLEN.out;show ys.length≤ys0.length+(j+1);omega,AJ.out,HUXI.out⟩
      ·have b2:decide (tz≤qf)=false:=decide_eq_false h2
       rw [if_neg (by omega)]at hcut
       by_cases h3:a<qf
       ·rw [if_pos h3,←List.append_assoc]at hcut
        have HCUT2:=Lib.hid hcut
        have b3:decide (a<qf)=true:=decide_eq_true h3
        have HOKX:=Lib.hid (And.intro HOA.out rq1)
        have HOQ:=Lib.hid rq2
        obtain⟨W5,hW5⟩ : ∃W5,W5=wr.alloc (.cells #[.int .i64 qf,.int .i64 qt] 94):=⟨_,rfl⟩
        have X5:=Lib.hid (show Ext w2 W5 from by rw [hW5];exact HXI.out.alloc _)
        have OJ:=Lib.hid (show OwnOf Rep.per W5 (fun _=>True) w2.heap.size 94 uq ys from by rw [hW5];exact OI.out.ext ((Ext.refl wr).alloc _))
        have d0:W5.cell? ⟨wr.heap.size,0,none⟩=some (.int .i64 qf):=by rw [hW5];go_simp
        have d1:W5.cell? ⟨wr.heap.size,1,none⟩=some (.int .i64 qt):=by rw [hW5];go_simp
        have m0:W5.cell? ⟨bp,0,none⟩=some (.int .i64 f):=by rw [hW5];exact((Ext.refl wr).alloc _).at a0
        have m1:W5.cell? ⟨bp,1,none⟩=some (.int .i64 tz):=by rw [hW5];exact((Ext.refl wr).alloc _).at a1
        have HUQ:=Lib.hid (show ∀x,uq.ownBlock=some x→x≠wr.heap.size from fun x hx e=>by have:=(HUL.out x hx).2;omega)
        clear OI HCUT hcut h1 h2 h3
        subst hW5
        go_wp2_with (at_builtin;go_loud (refine wpList_append_one Rep.per (fun _=>True) rfl _ _ 129 rfl w2.heap.size 94 i1 _ 16 Tryz.underlying129 hi1 hz10 hz11 hz12 rfl (by decide) uq ys rfl (OJ.out.ext ((Ext.refl _).alloc _)) ⟨_,0,none⟩ 1 ⟨a,qf⟩ [.int .i64 a,.int .i64 qf] rfl ⟨rfl,HOKX.out⟩ (by exact cells_new2 _ _ [.int .i64 a,.int .i64 qf] _) B1 B2 (Nat.le_trans X5.out.size ((Ext.refl _).alloc _).size) ?_))
        intro g8 cap8 w8 own8 gr8 hg8
        have Y8:Ext w2 w8:=ext_grown (X5.out.trans ((Ext.refl _).alloc (.cells #[.int .i64 a,.int .i64 qf] 94))) gr8 (fun x hx=>(HUL.out x hx).1)
        have y0:=cell_grown gr8 (((Ext.refl _).alloc (.cells #[.int .i64 a,.int .i64 qf] 94)).at m0) (fun x hx=>HUXI.out x hx)
        have y1:=cell_grown gr8 (((Ext.refl _).alloc (.cells #[.int .i64 a,.int .i64 qf] 94)).at m1) (fun x hx=>HUXI.out x hx)
        have y2:=cell_grown gr8 (((Ext.refl _).alloc (.cells #[.int .i64 a,.int .i64 qf] 94)).at d0) (fun x hx=>HUQ.out x hx)
        have y3:=cell_grown gr8 (((Ext.refl _).alloc (.cells #[.int .i64 a,.int .i64 qf] 94)).at d1) (fun x hx=>HUQ.out x hx)
        have e8:=cell_lt y2
        have OU9:=Lib.hid own8
        have K9:=Lib.hid (show Ext w2 w8∧w8.cell? ⟨bp,0,none⟩=some (.int .i64 f)∧w8.cell? ⟨bp,1,none⟩=some (.int .i64 tz)from ⟨Y8,y0,y1⟩)
        have HU9:=Lib.hid (show ∀x,(Value.slice (some ⟨g8,0,none⟩) (ys.length+1) cap8).ownBlock=some x→x≠bp from fun x hx=>by
         rcases hg8 with h | h
         ·exact HUXI.out x (h.trans hx)
         ·have h2:g8=x:=Option.some.inj hx
          have h3:wr.heap.size≤g8:=by rw [h];omega
          intro h4
          omega)
        clear own8 gr8 hg8 m0 m1 d0 d1 y0 y1 e0 c0 c1 a0 a1
        go_wp2_with fail
        go_roundg (nd - (j+1))
        case measure=>omega
        case rel=>exact⟨j+1,_,ys ++ [(⟨a,qf⟩:Per)],qt,by omega,rfl,by go_num,rfl,rfl,OU9.out,HCUT2.out,HOQ.out,by have:=HLEN.out;show (ys ++ [(⟨a,qf⟩:Per)]).length≤ys0.length+(j+1);simp;omega,K9.out,HU9.out⟩
       ·rw [if_neg h3,List.nil_append]at hcut
        have HCUT2:=Lib.hid hcut
        have b3:decide (a<qf)=false:=decide_eq_false h3
        have AJ:=Lib.hid (show Ext w2 (wr.alloc (.cells #[.int .i64 qf,.int .i64 qt] 94))∧(wr.alloc (.cells #[.int .i64 qf,.int .i64 qt] 94)).cell? ⟨bp,0,none⟩=some (.int .i64 f)∧(wr.alloc (.cells #[.int .i64 qf,.int .i64 qt] 94)).cell? ⟨bp,1,none⟩=some (.int .i64 tz)from ⟨HXI.out.alloc _,((Ext.refl wr).alloc _).at a0,((Ext.refl wr).alloc _).at a1⟩)
        have OJ:=Lib.hid (OI.out.ext ((Ext.refl wr).alloc (.cells #[.int .i64 qf,.int .i64 qt] 94)))
        have HOQ:=Lib.hid rq2
        clear hcut HCUT h1 h2 h3 OI rq1 rq2
        go_wp2_with fail
        go_roundg (nd - (j+1))
        case measure=>omega
        case rel=>exact⟨j+1,_,ys,qt,by omega,rfl,by go_num,rfl,rfl,OJ.out,HCUT2.out,HOQ.out,by have:=HLEN.out;show ys.length≤ys0.length+(j+1);omega,AJ.out,HUXI.out⟩
    ·have hd : ¬(j:Int)<(nd:Int):=by omega
     have hnil:D.drop j = []:=List.drop_eq_nil_of_le (by have:=HND.out;omega)
     have hcut:=HCUT.out
     rw [hnil,subP1]at hcut
     by_cases h4:a<tz
     ·rw [if_pos h4]at hcut
      have HFIN:=Lib.hid (show subUpto C D (k+1)=ys ++ [⟨a,tz⟩]from by rw [HST.out,←hcut])
      have b4:decide (a<tz)=true:=decide_eq_true h4
      have HOKX:=Lib.hid (And.intro HOA.out HRR.out.2)
      have OJ:=OI
      have X5:=HXI
      clear hcut hnil HCUT h4 OI
      go_wp2_with (at_builtin;go_loud (refine wpList_append_one Rep.per (fun _=>True) rfl _ _ 129 rfl w2.heap.size 94 i1 _ 16 Tryz.underlying129 hi1 hz10 hz11 hz12 rfl (by decide) uq ys rfl (OJ.out.ext ((Ext.refl _).alloc _)) ⟨_,0,none⟩ 1 ⟨a,tz⟩ [.int .i64 a,.int .i64 tz] rfl ⟨rfl,HOKX.out⟩ (by exact cells_new _ [.int .i64 a,.int .i64 tz] _) B1 B2 (Nat.le_trans X5.out.size ((Ext.refl _).alloc _).size) ?_))
      intro g8 cap8 w8 own8 gr8 hg8
      have X9:=Lib.hid (show Ext w2 w8 from ext_grown (X5.out.trans ((Ext.refl _).alloc (.cells #[.int .i64 a,.int .i64 tz] 94))) gr8 (fun x hx=>(HUL.out x hx).1))
      have OU9:=Lib.hid (show OwnOf Rep.per w8 (fun _=>True) w2.heap.size 94 (.slice (some ⟨g8,0,none⟩) (ys.length+1) cap8) (subUpto C D (k+1))from by rw [HFIN.out];exact own8)
      clear own8 gr8 hg8
      go_wp2_with fail
      go_roundg (nc - (k+1))
      case measure=>omega
      case rel=>exact⟨k+1,_,by omega,rfl,by go_num,rfl,OU9.out,X9.out⟩
     ·rw [if_neg h4,List.append_nil]at hcut
      have HFIN:=Lib.hid (show subUpto C D (k+1)=ys from by rw [HST.out,←hcut])
      have b4:decide (a<tz)=false:=decide_eq_false h4
      clear hcut hnil HCUT h4
      go_wp2_with fail
      go_roundg (nc - (k+1))
      case measure=>omega
      case rel=>exact⟨k+1,_,by omega,rfl,by go_num,rfl,by show OwnOf _ _ _ _ _ _ _;rw [HFIN.out];exact OI.out,HXI.out⟩
  ·have hkN:k=nc:=by omega
   have hd : ¬(k:Int)<(nc:Int):=by omega
   have HFI:=Lib.hid (show subUpto C D k=subPs la lb from by unfold subUpto subPs;rw [hkN,HNC.out,List.take_length,HCC.out,HDD.out])
   have HX:=Lib.hid (X2.out.trans hx)
   have HO:=Lib.hid (OU.out.weak (S:=fun _=>True) (T:=fun _=>True) (fun _ _ h=>h) X2.out.size)
   clear hkN hx OU
   go_wp2_with fail
   go_ret
   exact⟨_,rfl,by have h:=HO.out;rw [HFI.out]at h;exact h,HX.out⟩
end Go.Proofs.YtkddkbpoefidpaaGreatDoor
namespace Go.Proofs.YtkddkbpoefidpaaGreatDoor
open Go.RowKit
theorem made1 (a:Value) (n j:Nat) (h:j<n):(madeCells #[a] n).toList[j]?=some a:=by
 unfold madeCells
 rw [Array.toList_map,List.getElem?_map,Array.toList_range,List.getElem?_range h]
 have e:j % (#[a]:Array Value).size=0:=by
  show j % 1=0
  omega
 show some ((#[a])[j % (#[a]:Array Value).size]!)=_
 rw [e]
 rfl
theorem pair_rd {h:View} {b o n cap:Nat} {xs:List Pair} (k:SliceOf Rep.pair h (.slice (some ⟨b,o,none⟩) n cap) xs) (i:Nat) (hi:i<xs.length) :
  h ⟨b,o+i*4,none⟩=some (.int .i64 (xs[i].a:Nat))∧h ⟨b,o+i*4+1,none⟩=some (.int .i64 (xs[i].b:Nat))∧h ⟨b,o+i*4+2,none⟩=some (.int .i64 xs[i].from_)∧h ⟨b,o+i*4+3,none⟩=some (.int .i64 xs[i].to_)∧okP xs[i]:=by
 obtain⟨c,⟨rfl,h1⟩,h2⟩:=k.at i hi
 exact⟨h2 0 _ rfl,h2 1 _ rfl,h2 2 _ rfl,h2 3 _ rfl,h1⟩
theorem info_perS:(Tryz.prog.info? 129).map (fun i=>(i.zero,i.size,i.bytes))=some (some (.slice none 0 0),1,24):=by kernel_rfl
def MatPost (w:World) (n:Nat) (js:List Tup) (ps:Nat→List Per) (e:Ending) (w':World):Prop :=
 ∃u pb f S base,e = .returned (.tuple #[u,.slice (some ⟨pb,0,none⟩) n n])∧w.heap.size≤base∧OwnOf Rep.tup w' S base 96 u js∧MInv w' pb n base 94 96 f u js ps∧Ext w w'
set_option maxRecDepth 100000 in
set_option maxHeartbeats 8000000 in
theorem matches_any (va vb:Value) (a b:List Tup) (ve:Value) (es:List ExprI) (pred:Int) (w:World) (ha:SliceOf Rep.tup w.cell? va a) (hb:SliceOf Rep.tup w.cell? vb b) (hla:a.length≤100) (hlb:b.length≤100)
  (he:SliceOf Rep.expr w.cell? ve es) (hel:es.length≤1000) (hfa : ∀t∈a,t.vals.length≤1048576∧t.lin.length≤1048576) (hfb : ∀t∈b,t.vals.length≤1048576∧t.lin.length≤1048576) :
  Calls Tryz.prog 71 #[va,vb,ve,.int .i64 pred] w (MatPost w a.length (joinRaw (trE es pred) a b) (partners (trE es pred) a b)):=by
 obtain⟨i1,hi1,hz10,hz11,hz12⟩:=info_parts info_per
 obtain⟨i2,hi2,hz20,hz21,hz22⟩:=info_parts infoTup
 obtain⟨i4,hi4,hz40,hz41,hz42⟩:=info_parts info_perS
 obtain⟨n,hn⟩ : ∃n,n=a.length:=⟨_,rfl⟩
 have HA:=Lib.hid ha
 have HB:=Lib.hid hb
 have HE:=Lib.hid he
 have HLB:=Lib.hid hlb
 obtain⟨pa,ca,rfl,ha1,ha2,ha3⟩:=ha.form
 obtain⟨qb,cb,rfl,hb1,hb2,hb3⟩:=hb.form
 obtain⟨pe,ce,rfl,_⟩:=he.form
 obtain⟨m,hm⟩ : ∃m,m=b.length:=⟨_,rfl⟩
 rw [←hn]at HA ha3 hla ⊢
 rw [←hm]at HB hb3 ⊢
 have HN:=Lib.hid hn
 have HM:=Lib.hid hm
 have HPA:=Lib.hid ha3
 have HPB:=Lib.hid hb3
 have HEL:=Lib.hid hel
 have HFA:=Lib.hid hfa
 have HFB:=Lib.hid hfb
 obtain⟨tr,htr⟩ : ∃tr,tr=trE es pred:=⟨_,rfl⟩
 have HTR:=Lib.hid htr
 rw [←htr]
 clear ha hb he hn hm ha1 ha2 ha3 hb1 hb2 hb3 hel hfa hfb hlb htr
 go_enter Tryz.func71,Tryz.ntmps71
 go_wp2_with (at_make;go_loud (refine wpList_make_full _ rfl _ _ 121 rfl w.heap.size 129 i4 _ 1 Tryz.underlying121 hi4 hz40 hz41 .i64 .i64 (n:Int) (n:Int) n rfl rfl rfl rfl (by rw [hz42];omega) (by unfold maxLen;omega) (by simp) ?_))
 intro w1 own1 gr1
 obtain⟨pb,hpb⟩ : ∃z,z=w.heap.size:=⟨_,rfl⟩
 have HPB0:=Lib.hid hpb
 have hcells:pb<w1.heap.size∧ ∀i,i<n→w1.cell? ⟨pb,i,none⟩=some (.slice none 0 0)∧w1.frozen? ⟨pb,i,none⟩=false:=by
  have hF:=FreeN.made own1
  rw [Nat.mul_one]at hF
  refine⟨?_,fun i hi=>⟨?_,?_⟩⟩
  ·rcases own1.2 with ⟨h1,_⟩ | ⟨g',cap',cur,he,_,hg,_⟩
   ·cases h1
   ·injection he with e1 _ _
    injection e1 with e1
    injection e1 with e1
    subst e1
    rw [hpb]
    exact(Array.getElem?_eq_some_iff.1 hg).1
  ·obtain⟨g',cap',e1,_,_,_,_,hc⟩:=own_cells own1 (by omega)
   injection e1 with e1
   injection e1 with e1
   injection e1 with e1
   subst e1
   rw [hpb]
   exact hc i _ (made1 _ n i hi)
  ·rw [hpb];exact(hF i hi).2
 have X1:=Lib.hid (ext_grown (Ext.refl w) gr1 (fun k hk=>by cases hk))
 have HCE:=Lib.hid hcells
 rw [←hpb]
 clear own1 gr1 hcells hpb
 go_wp2_with fail
 refine(overlap_any _ _ a b _ (HA.out.ext X1.out.full) (HB.out.ext X1.out.full) (by have:=HN.out;omega) HLB.out).mono ?_
 rintro e w2 ⟨v2,rfl,t2,x2⟩
 obtain⟨L,hL⟩ : ∃L,L=pairsOf a b:=⟨_,rfl⟩
 have hLl:L.length≤10000:=by rw [hL];exact Nat.le_trans (pairs_len a b) (Nat.mul_le_mul (show a.length≤100 by have:=HN.out;omega) HLB.out)
 have hLat : ∀p∈L,p.a<n∧p.b<m:=fun p hp=>by
  rw [hL]at hp
  have h:=raw_at ((pairsOf_perm a b).mem_iff.1 hp)
  have h1:=HN.out
  have h2:=HM.out
  omega
 rw [←hL]at t2
 obtain⟨pp,cp,rfl,_,_,hpp⟩:=t2.form
 obtain⟨np,hnp⟩ : ∃z,z=L.length:=⟨_,rfl⟩
 rw [←hnp]at t2 hpp hLl ⊢
 have HP:=Lib.hid t2
 have HPP:=Lib.hid hpp
 have HNP:=Lib.hid hnp
 have HL:=Lib.hid hL
 have HAT:=Lib.hid hLat
 have ST2:=Lib.hid (show MInv w2 pb n w2.heap.size 94 96 (fun _=> .slice none 0 0) (.slice none 0 0) [] (fun _=> [])from
  ⟨⟨fun i _=>OwnOf.nil _ _ _ _ _,fun i j _ _ _ k e=>(by cases e)⟩,OwnOf.nil _ _ _ _ _,fun i hi=>x2.at (HCE.out.2 i hi).1,fun i hi=>x2.unfrozen (HCE.out.2 i hi).1 (HCE.out.2 i hi).2,fun i _ k e=>(by cases e),Nat.lt_of_lt_of_le HCE.out.1 x2.size,Nat.le_refl _⟩)
 have HPW:=Lib.hid HCE.out.1
 have X2:=Lib.hid (X1.out.trans x2)
 have HSZ:=Lib.hid (show w.heap.size≤w1.heap.size∧w1.heap.size≤w2.heap.size from ⟨X1.out.size,x2.size⟩)
 clear t2 hpp hnp hL hLat x2 X1 HCE
 go_wp2_with fail
 go_loopg [10,22] np (fun gk vo vi wr=> ∃(k:Nat) (u:Value) (f:Nat→Value),k≤np∧gk=np - k∧vi = .int .i64 k∧u=vo∧Hid (MInv wr pb n w2.heap.size 94 96 f u (joinUpto tr a b L k) (partUpto tr a b L k))∧Hid (Chg (fun x=>x=pb) w2 wr))
 case atStart=>exact⟨0,_,_,by omega,rfl,rfl,rfl,ST2.out,Chg.refl _ _⟩
 case round =>
  clear ST2
  obtain⟨k,u,f,hk,rfl,rfl,rfl,MI,HC⟩:=hrel
  have hxw:Ext w wr:=Chg.below HC.out X2.out (fun x e=>by rw [e,HPB0.out];exact Nat.le_refl _)
  have HXW:=Lib.hid hxw
  by_cases hlt:k<np
  ·have hkl:k<L.length:=by have:=HNP.out;omega
   obtain⟨bp,op,rfl⟩:=HPP.out (by decide) (by omega)
   have hd:decide ((k:Int)<(np:Int))=true:=by simp;omega
   obtain⟨c0,c1,c2,c3,hok⟩:=pair_rd (by have h:=HP.out;rw [HNP.out]at h;exact h) k hkl
   have hab:=HAT.out L[k] (List.getElem_mem hkl)
   have hsn1:=joinUpto_no tr a b L k hkl
   have hsn0:=joinUpto_yes tr a b L k hkl
   have hsn2:=partUpto_no tr a b L k hkl
   have hsn3:=partUpto_yes tr a b L k hkl
   generalize L[k]=pr at c0 c1 c2 c3 hok hab hsn0 hsn1 hsn2 hsn3
   obtain⟨A,B,F,T⟩:=pr
   dsimp only at c0 c1 c2 c3 hok hab hsn0 hsn1 hsn2 hsn3
   obtain⟨hAn,hBm⟩:=hab
   have hne0:bp≠pb:=by
    have h1:=(on_some.1 c0).1
    have h2:=HPW.out
    have h1:w1.heap.size≤bp:=h1
    omega
   replace c0:=HC.out.at (on_some.1 c0).2 hne0
   replace c1:=HC.out.at (on_some.1 c1).2 hne0
   replace c2:=HC.out.at (on_some.1 c2).2 hne0
   replace c3:=HC.out.at (on_some.1 c3).2 hne0
   have e0:=cell_lt c0
   obtain⟨ba,oa,rfl⟩:=HPA.out (by decide) (by omega)
   obtain⟨bb,ob,rfl⟩:=HPB.out (by decide) (by omega)
   have hal:A<a.length:=by have:=HN.out;omega
   have hbl:B<b.length:=by have:=HM.out;omega
   obtain⟨xa,xl,a0,a1,a2,a3,ga,gb,r5,r6⟩:=tup_at (by have h:=HA.out;rw [HN.out]at h;exact h) A hal
   obtain⟨ya,yl,b0,b1,b2,b3,gc,gd,r7,r8⟩:=tup_at (by have h:=HB.out;rw [HM.out]at h;exact h) B hbl
   clear r5 r6 r7 r8
   have hfx:=HFA.out a[A] (List.getElem_mem hal)
   have hfy:=HFB.out b[B] (List.getElem_mem hbl)
   have hpt:pairT a b ⟨A,B,F,T⟩=tupOf (pairRow (tupRow a[A]) (tupRow b[B])) ⟨F,T⟩:=by
    unfold pairT
    rw [getD_some (List.getElem?_eq_getElem hal),getD_some (List.getElem?_eq_getElem hbl)]
   rw [hpt]at hsn0 hsn1 hsn2 hsn3
   generalize a[A]=x at a1 a2 ga gb hfx hsn0 hsn1 hsn2 hsn3
   generalize b[B]=y at b1 b2 gc gd hfy hsn0 hsn1 hsn2 hsn3
   obtain⟨xv,xf,xt,xn⟩:=x
   obtain⟨yv,yf,yt,yn⟩:=y
   dsimp only [tupOf,pairRow,tupRow]at a1 a2 ga gb b1 b2 gc gd hfx hfy hsn0 hsn1 hsn2 hsn3
   replace a0:=hxw.at a0
   replace a1:=hxw.at a1
   replace a2:=hxw.at a2
   replace a3:=hxw.at a3
   replace b0:=hxw.at b0
   replace b1:=hxw.at b1
   replace b2:=hxw.at b2
   replace b3:=hxw.at b3
   obtain⟨p1,k1,rfl,_⟩:=ga.form
   obtain⟨p2,k2,rfl,_⟩:=gb.form
   obtain⟨p3,k3,rfl,_⟩:=gc.form
   obtain⟨p4,k4,rfl,_⟩:=gd.form
   have GA:=Lib.hid ga
   have GB:=Lib.hid gb
   have GC:=Lib.hid gc
   have GD:=Lib.hid gd
   have HFX:=Lib.hid hfx
   have HFY:=Lib.hid hfy
   have SN0:=Lib.hid hsn0
   have SN1:=Lib.hid hsn1
   have SN2:=Lib.hid hsn2
   have SN3:=Lib.hid hsn3
   have HOK:=Lib.hid hok
   obtain⟨zn,hzn⟩ : ∃z,z=(xv++yv).length:=⟨_,rfl⟩
   have HZN:=Lib.hid hzn
   clear hzn
   have hAI:(A:Int)<(n:Int):=by omega
   have hBI:(B:Int)<(m:Int):=by omega
   clear ga gb gc gd hfx hfy hsn0 hsn1 hsn2 hsn3 hpt hal hbl hkl hxw hok hne0
   go_wp2_with fail
   obtain⟨tp,htp⟩ : ∃z,z=wr.heap.size:=⟨_,rfl⟩
   obtain⟨W3,hW3⟩ : ∃W3,W3=wr.alloc (.cells #[.int .i64 (A:Nat),.int .i64 (B:Nat),.int .i64 F,.int .i64 T] 197):=⟨_,rfl⟩
   have x3:Ext wr W3:=by rw [hW3];exact(Ext.refl wr).alloc _
   have hS0:Ext wr W3.drew∧W3.drew.cell? ⟨tp,0,none⟩=some (.int .i64 (A:Nat))∧W3.drew.cell? ⟨tp,1,none⟩=some (.int .i64 (B:Nat))∧W3.drew.cell? ⟨tp,2,none⟩=some (.int .i64 F)∧W3.drew.cell? ⟨tp,3,none⟩=some (.int .i64 T)∧W3.drew.cell? ⟨ba,oa+A*4,none⟩=some (.slice p1 xv.length k1)∧W3.drew.cell? ⟨ba,oa+A*4+1,none⟩=some (.int .i64 xf)∧W3.drew.cell? ⟨ba,oa+A*4+2,none⟩=some (.int .i64 xt)∧W3.drew.cell? ⟨ba,oa+A*4+3,none⟩=some (.slice p2 xn.length k2)∧W3.drew.cell? ⟨bb,ob+B*4,none⟩=some (.slice p3 yv.length k3)∧W3.drew.cell? ⟨bb,ob+B*4+1,none⟩=some (.int .i64 yf)∧W3.drew.cell? ⟨bb,ob+B*4+2,none⟩=some (.int .i64 yt)∧W3.drew.cell? ⟨bb,ob+B*4+3,none⟩=some (.slice p4 yn.length k4):=by
    rw [htp,hW3]
    exact⟨((Ext.refl wr).alloc _).drew,(by go_simp),(by go_simp),(by go_simp),(by go_simp),((Ext.refl wr).alloc _).drew.at a0,((Ext.refl wr).alloc _).drew.at a1,((Ext.refl wr).alloc _).drew.at a2,((Ext.refl wr).alloc _).drew.at a3,((Ext.refl wr).alloc _).drew.at b0,((Ext.refl wr).alloc _).drew.at b1,((Ext.refl wr).alloc _).drew.at b2,((Ext.refl wr).alloc _).drew.at b3⟩
   have HTP:=Lib.hid htp
   have X3:=Lib.hid x3
   try rw [←htp]
   try rw [←hW3]
   clear hW3 htp x3 c0 c1 c2 c3 a0 a1 a2 a3 b0 b1 b2 b3 e0 hd
   go_region_held3 (fun w'=>Ext wr w'∧w'.cell? ⟨tp,0,none⟩=some (.int .i64 (A:Nat))∧w'.cell? ⟨tp,1,none⟩=some (.int .i64 (B:Nat))∧w'.cell? ⟨tp,2,none⟩=some (.int .i64 F)∧w'.cell? ⟨tp,3,none⟩=some (.int .i64 T)∧w'.cell? ⟨ba,oa+A*4,none⟩=some (.slice p1 xv.length k1)∧w'.cell? ⟨ba,oa+A*4+1,none⟩=some (.int .i64 xf)∧w'.cell? ⟨ba,oa+A*4+2,none⟩=some (.int .i64 xt)∧w'.cell? ⟨ba,oa+A*4+3,none⟩=some (.slice p2 xn.length k2)∧w'.cell? ⟨bb,ob+B*4,none⟩=some (.slice p3 yv.length k3)∧w'.cell? ⟨bb,ob+B*4+1,none⟩=some (.int .i64 yf)∧w'.cell? ⟨bb,ob+B*4+2,none⟩=some (.int .i64 yt)∧w'.cell? ⟨bb,ob+B*4+3,none⟩=some (.slice p4 yn.length k4))
    (first |with_reducible assumption | with_reducible exact K4 | exact keepE12 hS0 ((Ext.refl W3).alloc _).drew.ofDrew | exact keepE12 hS0 (ext_W4 x4a (Nat.le_refl _) _ _ _ _) | exact keepE12 K4 ((Ext.refl _).alloc _) | exact keepE12 K4 (ext_W4 ((Ext.refl _).alloc _) (Nat.le_refl _) _ _ _ _))
    (first
     |(go_at_call 74;refine(combine_any _ _ _ _ xv yv xn yn _ _ _ _ _ _ _ (GA.out.ext (HXW.out.trans X3.out.drew).full) (GC.out.ext (HXW.out.trans X3.out.drew).full) (GB.out.ext (HXW.out.trans X3.out.drew).full) (GD.out.ext (HXW.out.trans X3.out.drew).full) HFX.out.1 HFY.out.1 HFX.out.2 HFY.out.2).mono ?_;rintro e w4 ⟨va,la,rfl,sv,sl,x4⟩;obtain⟨q1,j1,rfl,_⟩:=sv.form;obtain⟨q2,j2,rfl,_⟩:=sl.form;rw [←HZN.out]at sv ⊢;have K4:=keepE12 hS0 x4)
     |(go_at_call 74;refine(combine_any _ _ _ _ xv yv xn yn _ _ _ _ _ _ _ (GA.out.ext (HXW.out.trans (X3.out.alloc _).drew).full) (GC.out.ext (HXW.out.trans (X3.out.alloc _).drew).full) (GB.out.ext (HXW.out.trans (X3.out.alloc _).drew).full) (GD.out.ext (HXW.out.trans (X3.out.alloc _).drew).full) HFX.out.1 HFY.out.1 HFX.out.2 HFY.out.2).mono ?_;rintro e w4 ⟨va,la,rfl,sv,sl,x4⟩;obtain⟨q1,j1,rfl,_⟩:=sv.form;obtain⟨q2,j2,rfl,_⟩:=sl.form;rw [←HZN.out]at sv ⊢;have x4a:Ext W3.drew w4:=((Ext.refl W3).alloc _).drew.ofDrew.trans x4;have K4:=keepE12 hS0 x4a;obtain⟨⟨m0,y0⟩,⟨m1,y1⟩,⟨m2,y2⟩,⟨m3,y3⟩,y4,y5,y6,y7⟩:=(Free4.ext (free_new W3) (Ext.refl _).drew).ext x4;have z4:=cell_lt y0))
   all_goals
    have k5:= ‹Ext wr (_:World)∧_›
    obtain⟨W5,nb,hW5,hnb,TB⟩ : ∃W5 nb,W5=_∧nb=_∧TupBox wr W5 nb (.slice q1 zn j1) (.slice q2 (mergeL xn yn).length j2) F T (xv++yv) (mergeL xn yn):=⟨_,_,rfl,rfl,by first | exact box_before X3.out x4 sv sl | exact box_alloc (T:=96) X3.out.drew x4 sv sl⟩
    rw [←hW5]at k5 ⊢
    try rw [←hnb]
    have d0:=k5.2.1
    have d2:=k5.2.2.2.1
    have d3:=k5.2.2.2.2.1
    have g0:=TB.c0
    have g1:=TB.c1
    have g2:=TB.c2
    have g3:=TB.c3
    have e0:=cell_lt d0
    have e1:=cell_lt g0
    have BX:=Lib.hid TB
    have HAI:=Lib.hid (And.intro hAn hAI)
    clear k5 TB K4 x4 sv sl hW5 hnb
    go_wp2_with fail
    refine(isTrueE_any _ es pred _ (xv++yv) _ (HE.out.ext (HXW.out.trans BX.out.ext).full) HEL.out (BX.out.sv.ext (on_sub _ _))).mono ?_
    rintro e w6 ⟨rfl,x6⟩
    rw [←HTR.out]
    have X6:=Lib.hid (BX.out.ext.trans x6)
    have MI6:=Lib.hid (MI.out.ext X6.out)
    have HC6:=Lib.hid (HC.out.ext X6.out)
    cases htv:tr (xv++yv)with
    |false =>
     have HJ:=Lib.hid (show joinUpto tr a b L (k+1)=joinUpto tr a b L k from SN1.out htv)
     have HP2:=Lib.hid (SN2.out htv)
     clear htv x6 MI HC
     go_wp2_with fail
     go_roundg (np - (k+1))
     case measure=>omega
     case rel=>exact⟨k+1,u,f,by omega,rfl,by go_num,rfl,by rw [HJ.out,HP2.out];exact MI6.out,HC6.out⟩
    |true =>
     have HJ:=Lib.hid (show joinUpto tr a b L (k+1)=joinUpto tr a b L k ++ [⟨xv++yv,F,T,mergeL xn yn⟩]from SN0.out htv)
     have HP2:=Lib.hid (SN3.out htv)
     have hys:=joinUpto_len tr a b L k
     have hps:=partUpto_len tr a b L k A
     obtain⟨ys,hys0⟩ : ∃z,z=joinUpto tr a b L k:=⟨_,rfl⟩
     obtain⟨P,hP0⟩ : ∃z,z=partUpto tr a b L k:=⟨_,rfl⟩
     rw [←hys0]at MI6 HJ hys
     rw [←hP0]at MI6 HP2 hps
     have hLn:L.length≤10000:=by have:=HNP.out;omega
     have B1:ys.length+1≤maxLen:=by unfold maxLen;omega
     have B2:(ys.length+1)*64≤140737488355328:=by omega
     have HPS:=Lib.hid (show (P A).length≤10000 by omega)
     replace d0:=x6.at d0
     replace d2:=x6.at d2
     replace d3:=x6.at d3
     replace g0:=x6.at g0
     replace g1:=x6.at g1
     replace g2:=x6.at g2
     replace g3:=x6.at g3
     replace e0:=cell_lt d0
     replace e1:=cell_lt g0
     have HSUB:=Lib.hid (show ∀o,Sub (on W5 (fun k=>k≠nb∧wr.heap.size≤k)) (on (w6.alloc o) (avoid (Off f n pb) u))from fun o=>(on_mono W5 (fun x _ hx=>⟨fun e=>by have h1:=(MI.out.out.lt x e.symm).2;omega,fun e=>by have h1:=MI.out.lo;have h2:=MI.out.hi;omega,fun i hi e=>by have h1:=((MI.out.fam.own i hi).lt x e).2;omega⟩)).trans ((x6.trans ((Ext.refl w6).alloc o)).sub _))
     have X66:=Lib.hid x6
     have HU6:=Lib.hid (show ∀x,u.ownBlock=some x→x<wr.heap.size from fun x hx=>(MI.out.out.lt x hx).2)
     have HFB:=Lib.hid (show ∀i,i<n→ ∀x,(f i).ownBlock=some x→x<wr.heap.size from fun i hi x hx=>((MI.out.fam.own i hi).lt x hx).2)
     have HTB:=Lib.hid (show wr.heap.size≤tp from by rw [HTP.out];exact Nat.le_refl _)
     clear htv x6 MI HC hys hps hys0 hP0 hLn
     go_wp2_with (at_builtin;go_loud (refine wpList_append_one Rep.tup (Off f n pb) rfl _ _ 22 rfl w2.heap.size 96 i2 _ 64 Tryz.underlying22 hi2 hz20 hz21 hz22 rfl (by decide) u ys rfl (MI6.out.out.ext ((Ext.refl w6).alloc _)) ⟨_,0,none⟩ 1 ⟨xv++yv,F,T,mergeL xn yn⟩ [.slice q1 zn j1,.int .i64 F,.int .i64 T,.slice q2 (mergeL xn yn).length j2] rfl ⟨_,_,rfl,BX.out.sv.ext (HSUB.out _),BX.out.sl.ext (HSUB.out _),HOK.out.2.1,HOK.out.2.2⟩ (by exact cells_new w6 [.slice q1 zn j1,.int .i64 F,.int .i64 T,.slice q2 (mergeL xn yn).length j2] _) B1 B2 (Nat.le_trans MI6.out.hi ((Ext.refl w6).alloc _).size) ?_))
     intro g8 cap8 w8 own8 gr8 hg8
     have x68:Ext w6 (w6.alloc (.cells #[.slice q1 zn j1,.int .i64 F,.int .i64 T,.slice q2 (mergeL xn yn).length j2] 96)):=(Ext.refl w6).alloc _
     have M8:=Lib.hid (MInv.push (MI6.out.ext x68) own8 gr8 (by rcases hg8 with h | h;exact .inl h;exact .inr (by rw [h];simp)))
     have hut : ∀x,u.ownBlock=some x→x≠tp:=fun x hx=>by have h1:=HU6.out x hx;have h2:=HTB.out;omega
     have hub : ∀x,u.ownBlock=some x→w2.heap.size≤x:=fun x hx=>(MI6.out.out.lt x hx).1
     replace d0:=cell_grown gr8 (x68.at d0) hut
     replace d2:=cell_grown gr8 (x68.at d2) hut
     replace d3:=cell_grown gr8 (x68.at d3) hut
     have HC8:=Lib.hid ((HC6.out.ext x68).grown gr8 (fun x hx=> .inr (hub x hx)))
     have hcA:=M8.out.cell A HAI.out.1
     have hfr:=M8.out.free A HAI.out.1
     have hoA:=M8.out.fam.own A HAI.out.1
     have hlt:=hoA.lt
     obtain⟨pn,hpn⟩ : ∃z,z=(P A).length:=⟨_,rfl⟩
     obtain⟨p9,c9,hfa,_⟩:=hoA.shapeL
     rw [←hpn]at hfa
     have HPN:=Lib.hid hpn
     have HFA9:=Lib.hid hfa
     rw [hfa]at hcA hoA hlt
     have OA:=Lib.hid hoA
     have HLT:=Lib.hid (show ∀x,(Value.slice p9 pn c9).ownBlock=some x→w2.heap.size≤x∧x<w8.heap.size from hlt)
     have HTN:=Lib.hid (show ∀x,(Value.slice p9 pn c9).ownBlock=some x→x≠tp from fun x hx e=>by
      have h1:=HFB.out A HAI.out.1 x (by rw [hfa];exact hx)
      have h2:=HTB.out
      omega)
     have HPX:=Lib.hid (show ∀x,(Value.slice p9 pn c9).ownBlock=some x→x≠pb from fun x hx e=>by have h1:=(hlt x hx).1;have h2:=M8.out.lo;omega)
     have C1:(P A).length+1≤maxLen:=by have:=HPS.out;unfold maxLen;omega
     have C2:((P A).length+1)*16≤140737488355328:=by have:=HPS.out;omega
     have e8:=cell_lt d0
     have e9:=cell_lt hcA
     have hAn':=HAI.out.1
     have hAI':=HAI.out.2
     clear x68 own8 gr8 hg8 g0 g1 g2 g3 e0 e1 hut hub MI6 HC6 hpn hfa hoA hlt HU6
     go_wp2_with fail
     go_region_law (first
      |(go_loud (refine step_append_one Rep.per (fun _=>False) rfl _ _ 129 rfl w2.heap.size 94 i1 _ 16 Tryz.underlying129 hi1 hz10 hz11 hz12 rfl (by decide) (.slice p9 pn c9) (P A) rfl (by exact OA.out.ext ((Ext.refl w8).alloc (.cells #[.int .i64 F,.int .i64 T] 94)).drew) ⟨_,0,none⟩ 1 ⟨F,T⟩ [.int .i64 F,.int .i64 T] rfl ⟨rfl,HOK.out.2⟩ (by exact cells_new w8 [.int .i64 F,.int .i64 T] _) C1 C2 (by exact Nat.le_trans M8.out.hi ((Ext.refl w8).alloc (.cells #[.int .i64 F,.int .i64 T] 94)).drew.size) ?_);intro g9 cap9 w9 own9 gr9 hg9;have y0:=cell_grown gr9 (((Ext.refl w8).alloc (.cells #[.int .i64 F,.int .i64 T] 94)).drew.at d0) HTN.out;have y1:=cell_grown gr9 (((Ext.refl w8).alloc (.cells #[.int .i64 F,.int .i64 T] 94)).drew.at hcA) HPX.out;have y2:=frozen_grown gr9 (((Ext.refl w8).alloc (.cells #[.int .i64 F,.int .i64 T] 94)).drew.at hcA) (((Ext.refl w8).alloc (.cells #[.int .i64 F,.int .i64 T] 94)).drew.unfrozen hcA hfr) HPX.out;have y3:=cell_lt y1))
     all_goals
      have xl:Ext w8 (w8.alloc (.cells #[.int .i64 F,.int .i64 T] 94)).drew:=((Ext.refl w8).alloc _).drew
      have M10:=Lib.hid (MInv.part (M8.out.ext xl) HAI.out.1 own9 (by rw [HFA9.out];exact gr9) (by rw [HFA9.out];exact hg9))
      have HC10:=Lib.hid (((HC8.out.ext xl).grown gr9 (fun x hx=> .inr (HLT.out x hx).1)).setCell (p:=⟨pb,A,none⟩) (.inl rfl) (.slice (some ⟨g9,0,none⟩) ((P A).length+1) cap9))
      clear xl own9 gr9 hg9 y0 y1 y2 y3 M8 HC8 d0 d2 d3 hcA hfr e8 e9
      go_wp2_with fail
      go_roundg (np - (k+1))
      case measure=>omega
      case rel=>exact⟨k+1,_,_,by omega,rfl,by go_num,rfl,by rw [HJ.out,HP2.out];exact M10.out,HC10.out⟩
  ·have hkN:k=np:=by omega
   have hd : ¬(k:Int)<(np:Int):=by omega
   have HFI:=Lib.hid (show joinUpto tr a b L k=joinRaw tr a b∧partUpto tr a b L k=partners tr a b from by
    unfold joinUpto joinRaw
    rw [hkN,HNP.out,List.take_length,←HL.out]
    refine⟨rfl,?_⟩
    funext i
    unfold partUpto partners
    rw [List.take_length,←HL.out])
   have hm:=MI.out
   rw [HFI.out.1,HFI.out.2]at hm
   have MF:=Lib.hid hm
   have HB2:=Lib.hid (show w.heap.size≤w2.heap.size from X2.out.size)
   clear hm hkN MI HC
   go_wp2_with fail
   refine bodyPost_ret (v:= .tuple #[u,.slice (some ⟨pb,0,none⟩) n n]) (by simp [results,Tryz.results71,go_sem]) rfl ⟨u,pb,f,_,_,rfl,HB2.out,MF.out.out,MF.out,HXW.out⟩
end Go.Proofs.YtkddkbpoefidpaaGreatDoor
namespace Go.Proofs.YtkddkbpoefidpaaGreatDoor
open Go.RowKit
def fewT (l:List Tup):Prop:= ∀t∈l,t.vals.length≤1000∧(∀x∈t.vals,x.s.size≤1048576)∧t.lin.length≤1000
theorem fewT.long {l:List Tup} (h:fewT l) : ∀t∈l,t.vals.length≤1048576∧t.lin.length≤1048576:=fun t ht=>by have:=h t ht;omega
theorem fewT.getD {l:List Tup} (h:fewT l) (k:Nat):(l.getD k tupD).vals.length≤1000∧(∀x∈(l.getD k tupD).vals,x.s.size≤1048576)∧(l.getD k tupD).lin.length≤1000:=by
 rw [List.getD_eq_getElem?_getD]
 cases hk:l[k]? with
 |none=>exact⟨by show ([]:List Val).length≤_;simp,fun x hx=>(by cases hx),by show ([]:List Int).length≤_;simp⟩
 |some t=>exact h t (List.mem_of_getElem? hk)
theorem merge_len (a b:List Int):(mergeL a b).length≤a.length+b.length:=by
 have h:=asc_len (mergeL_law a b).1 (xs:=a++b) fun x hx=>List.mem_append.2 (((mergeL_law a b).2 x).1 hx)
 rw [List.length_append]at h
 exact h
theorem join_fit {tr:List Val→Bool} {a b:List Tup} (ha:fewT a) (hb:fewT b) : ∀t∈joinRaw tr a b,t.vals.length≤2000∧(∀x∈t.vals,x.s.size≤1048576)∧t.lin.length≤2000:=by
 intro t ht
 unfold joinRaw at ht
 obtain⟨p,_,rfl⟩:=List.mem_map.1 (List.mem_filter.1 ht).1
 obtain⟨h1,h2,h3⟩:=ha.getD p.a
 obtain⟨h4,h5,h6⟩:=hb.getD p.b
 refine⟨?_,fun x hx=> ?_,?_⟩
 ·show ((a.getD p.a tupD).vals++(b.getD p.b tupD).vals).length≤_
  rw [List.length_append];omega
 ·rcases List.mem_append.1 (show x∈(a.getD p.a tupD).vals++(b.getD p.b tupD).vals from hx)with hx | hx
  ·exact h2 x hx
  ·exact h5 x hx
 ·show (mergeL (a.getD p.a tupD).lin (b.getD p.b tupD).lin).length≤_
  have:=merge_len (a.getD p.a tupD).lin (b.getD p.b tupD).lin
  omega
theorem joinRaw_len (tr:List Val→Bool) (a b:List Tup):(joinRaw tr a b).length≤a.length*b.length:=by
 unfold joinRaw
 refine Nat.le_trans (List.length_filter_le _ _) ?_
 rw [List.length_map]
 exact pairs_len a b
set_option maxRecDepth 100000 in
set_option maxHeartbeats 4000000 in
theorem inner_any (va vb:Value) (a b:List Tup) (ve:Value) (es:List ExprI) (pred:Int) (w:World) (ha:SliceOf Rep.tup w.cell? va a) (hb:SliceOf Rep.tup w.cell? vb b) (hla:a.length≤100) (hlb:b.length≤100)
  (he:SliceOf Rep.expr w.cell? ve es) (hel:es.length≤1000) (hfa:fewT a) (hfb:fewT b) (hT:TabW w) :
  Calls Tryz.prog 23 #[va,vb,ve,.int .i64 pred] w fun e w'=> ∃v',e = .returned v'∧SliceOf Rep.tup (on w' (since w)) v' (innerT (trE es pred) a b)∧Ext w w':=by
 have HM:=Lib.hid (matches_any va vb a b ve es pred w ha hb hla hlb he hel hfa.long hfb.long)
 have HF:=Lib.hid (show fitN (joinRaw (trE es pred) a b)from ⟨Nat.le_trans (joinRaw_len _ a b) (Nat.le_trans (Nat.mul_le_mul hla hlb) (by decide)),fun t ht=>by
  obtain⟨h1,h2,h3⟩:=join_fit hfa hfb t ht
  exact⟨⟨by omega,h2⟩,by omega⟩⟩)
 obtain⟨pa,ca,rfl,_⟩:=ha.form
 obtain⟨pb,cb,rfl,_⟩:=hb.form
 obtain⟨pe,ce,rfl,_⟩:=he.form
 have HT:=Lib.hid hT
 obtain⟨n,hn⟩ : ∃n,n=a.length:=⟨_,rfl⟩
 rw [←hn]at HM ⊢
 obtain⟨js,hjs⟩ : ∃js,js=joinRaw (trE es pred) a b:=⟨_,rfl⟩
 have hin:innerT (trE es pred) a b=normT js:=by rw [hjs];rfl
 rw [hin]
 rw [←hjs]at HM HF
 clear ha hb he hT hn hjs hin
 go_enter Tryz.func23,Tryz.ntmps23
 go_wp2_with fail
 refine HM.out.mono ?_
 rintro e w1 ⟨u,pb2,f,S,base,rfl,hb2,ho,hm,x1⟩
 have s1:=ho.slice
 obtain⟨p1,c1,rfl,_⟩:=s1.form
 have S1:=Lib.hid s1
 have X1:=Lib.hid x1
 clear s1 x1 ho hm hb2
 go_wp2_with fail
 refine(normalize_any _ js _ S1.out HF.out (HT.out.ext X1.out)).mono ?_
 rintro e w2 ⟨v2,rfl,t2,x2⟩
 have T2:=Lib.hid (show SliceOf Rep.tup (on w2 (since w)) v2 (normT js)from t2.ext (on_mono _ fun k _ hk=>Nat.le_trans X1.out.size hk))
 obtain⟨p2,c2,rfl,_⟩:=t2.form
 have X2:=Lib.hid (X1.out.trans x2)
 clear t2 x2 X1
 go_wp2_with fail
 go_ret
 exact⟨_,rfl,T2.out,X2.out⟩
end Go.Proofs.YtkddkbpoefidpaaGreatDoor
