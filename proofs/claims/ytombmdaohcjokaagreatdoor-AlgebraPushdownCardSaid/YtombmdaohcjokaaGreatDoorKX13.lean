/- joined texts of a proof: AggG, RowG, RefV, DepR, RefT, BagO, BagP, GrpE, GrpC, GrpY, RefH -/
import Derived.Test.YtombmdaohcjokaaGreatDoorKX09
import Derived.Test.YtombmdaohcjokaaGreatDoorKX10
import Derived.Test.YtombmdaohcjokaaGreatDoorKX07
import Derived.Test.YtombmdaohcjokaaGreatDoorKX05
import Derived.Test.YtombmdaohcjokaaGreatDoorKX12
import Derived.Test.YtombmdaohcjokaaGreatDoorKX03
import Derived.Test.YtombmdaohcjokaaGreatDoorKX04
import Derived.Test.YtombmdaohcjokaaGreatDoorKX11
import Derived.Deep.DeepCutAuto
namespace Go.Proofs.YtombmdaohcjokaaGreatDoor
open Go.RowKit
set_option maxRecDepth 100000 in
set_option maxHeartbeats 4000000 in
theorem project_gen (v:Value) (es:List ExprI) (kv:Value) (keys:List Int) (vv:Value) (vals:List Val) (w:World) (he:SliceOf Rep.expr w.cell? v es) (hl:es.length≤1000) (hk:SliceOf Rep.int w.cell? kv keys) (hkl:keys.length≤1000) (hv:SliceOf Rep.val w.cell? vv vals) :
  Calls Tryz.prog 80 #[v,kv,vv] w fun e w'=> ∃v',e = .returned v'∧OwnOf Rep.val w' (fun _=>True) w.heap.size 61 v' (projE es keys vals)∧Ext w w':=by
 obtain⟨i3,hi3,hz30,hz31,hz32⟩:=info_parts info_val3
 obtain⟨pe,ce,rfl,_⟩:=he.form
 obtain⟨pv,cv,rfl,_⟩:=hv.form
 obtain⟨p,cap,rfl,hc1,hc2,hp⟩:=hk.form
 obtain⟨N,hN⟩ : ∃N,N=keys.length:=⟨_,rfl⟩
 have HK:=Lib.hid hk
 rw [←hN]
 have HN:=Lib.hid hN
 have HP:=Lib.hid hp
 have HE:=Lib.hid he
 have HV:=Lib.hid hv
 have HC:=Lib.hid (expr_oks he)
 have HL:=Lib.hid hl
 have hNl:N≤1000:=by omega
 clear he hl hk hkl hv hp hc1 hc2 hN
 go_enter Tryz.func80,Tryz.ntmps80
 go_wp2_with fail
 go_loopg [7,12] N (fun gk vo vi wr=> ∃(k:Nat) (u:Value) (o:List Val),k≤N∧gk=N - k∧vi = .int .i64 k∧u=vo∧Hid (OwnOf Rep.val wr (fun _=>True) w.heap.size 61 u o)∧Hid (o=projE es (keys.take k) vals)∧Ext w wr)
 case atStart=>exact⟨0,_,[],by omega,rfl,rfl,rfl,OwnOf.nil _ _ _ _ _,rfl,Ext.refl w⟩
 case round =>
  obtain⟨k,u,o,hk,rfl,rfl,rfl,OW,AS,hx⟩:=hrel
  by_cases hlt:k<N
  ·have hkl:k<keys.length:=by have:=HN.out;omega
   have hd:decide ((k:Int)<(N:Int))=true:=by simp;omega
   obtain⟨b,o',rfl⟩:=HP.out (by decide) (by omega)
   have hv:=HK.out
   rw [←HN.out]at hv
   obtain⟨c0,_⟩:=int_at hv k hkl
   replace c0:=hx.at c0
   have hst:=projE_take es keys vals k hkl
   have hol:o.length≤1000:=by rw [AS.out];unfold projE;rw [List.length_map,List.length_take];omega
   rw [←AS.out]at hst
   generalize keys[k]=x at c0 hst
   obtain⟨y,hy⟩ : ∃y,y=evalE es x vals:=⟨_,rfl⟩
   have hoy:okVal y:=by rw [hy];exact ok_evalE HC.out (vals_ok HV.out) _
   have e0:=cell_lt c0
   have HST:=Lib.hid hst
   have HHY:=Lib.hid hy
   have HOY:=Lib.hid hoy
   have B1:o.length+1≤maxLen:=by unfold maxLen;omega
   have B2:(o.length+1)*32≤140737488355328:=by omega
   clear hst hv hol hy hoy
   go_wp2_with fail
   refine(eval_any _ es x _ vals _ (HE.out.ext hx.full) HL.out (HV.out.ext hx.full)).mono ?_
   rintro e w1 ⟨rfl,x1⟩
   rw [←HHY.out]
   have HX1:=Lib.hid x1
   obtain⟨yk,yn,ys⟩:=y
   clear x1
   dsimp only
   go_wp2_with (at_builtin;go_loud (refine wpList_append_one Rep.val (fun _=>True) rfl _ _ 56 rfl w.heap.size 61 i3 _ 32 Tryz.underlying56 hi3 hz30 hz31 hz32 rfl (by decide) u o rfl (OW.out.ext (HX1.out.alloc _)) ⟨w1.heap.size,0,none⟩ 1 ⟨yk,yn,ys⟩ [.int .i64 yk,.int .i64 yn,.string ys] rfl ⟨rfl,HOY.out⟩ (by exact cells_new w1 [.int .i64 yk,.int .i64 yn,.string ys] _) B1 B2 (by exact(hx.trans (HX1.out.alloc _)).size) ?_))
   intro g cap3 w3 own gr _
   have hxx:Ext w w3:=Ext.grownNew (hx.trans (HX1.out.alloc _)) gr OW.out.base
   have OW2:=Lib.hid own
   clear own gr
   go_wp2_with fail
   go_roundg (N - (k+1))
   case measure=>omega
   case rel=>exact⟨k+1,_,_,by omega,rfl,by go_num,rfl,OW2.out,by show _=_;rw [HST.out,←HHY.out],hxx⟩
  ·have hkN:k=N:=by omega
   have hd : ¬(k:Int)<(N:Int):=by omega
   have HF:=Lib.hid (show o=projE es keys vals from by
    have h:=AS.out
    rw [hkN,HN.out,List.take_length]at h
    exact h)
   clear hkN
   go_wp2_with fail
   go_ret
   exact⟨u,rfl,by rw [←HF.out];exact OW.out,hx⟩
set_option maxRecDepth 100000 in
set_option maxHeartbeats 8000000 in
theorem aggregate_gen (v:Value) (es:List ExprI) (kind:Int) (root:Int) (mv:Value) (vss:List (List Val)) (w:World) (he:SliceOf Rep.expr w.cell? v es) (hel:es.length≤1000) (hm:SliceOf (Rep.slice Rep.val) w.cell? mv vss) (hml:vss.length≤4096) (hk:kind≠1) :
  Calls Tryz.prog 130 #[v,.agg #[.int .i64 kind,.int .i64 root],mv] w fun e w'=>e = .returned (valV (aggE es kind root vss))∧Ext w w':=by
 obtain⟨i3,hi3,hz30,hz31,hz32⟩:=info_parts info_val3
 obtain⟨pe,ce,rfl,_⟩:=he.form
 obtain⟨p,cap,rfl,hc1,hc2,hp⟩:=hm.form
 obtain⟨N,hN⟩ : ∃N,N=vss.length:=⟨_,rfl⟩
 have HM:=Lib.hid hm
 rw [←hN]at HM
 rw [←hN]
 have HN:=Lib.hid hN
 have HP:=Lib.hid hp
 have HE:=Lib.hid (And.intro he (And.intro (expr_oks he) hel))
 have hNl:N≤4096:=by omega
 have HK:=Lib.hid hk
 have hk1:(kind==1)=false:=by simp;omega
 clear hm hN hp hc1 hc2 he hel hml hk
 go_enter Tryz.func130,Tryz.ntmps130
 go_wp2_with fail
 obtain⟨Q,hQ⟩ : ∃q,q=w.heap.size:=⟨_,rfl⟩
 have HQ:=Lib.hid hQ
 rw [←hQ]
 go_loopg [7,19] N (fun gk vo vi wr=> ∃(k:Nat) (u:Value) (o:List Val),k≤N∧gk=N - k∧vi = .int .i64 k∧u=vo∧Hid (OwnOf Rep.val wr (fun _=>True) (Q+2) 61 u o)∧Hid (o=argsG es root (vss.take k))∧Hid (wr.cell? ⟨Q,0,none⟩=some (.int .i64 kind)∧wr.cell? ⟨Q,1,none⟩=some (.int .i64 root))∧Hid (FreeN wr (Q+1) 3)∧Hid (Q+2≤wr.heap.size)∧Hid (Ext w wr))
 case atStart =>
  refine⟨0,_,[],by omega,rfl,rfl,rfl,OwnOf.nil _ _ _ _ _,rfl,⟨?_,?_⟩,fun j hj=> ?_,?_,((Ext.refl w).alloc _).alloc _⟩
  ·rw [hQ];go_simp
  ·rw [hQ];go_simp
  ·rw [hQ]
   match j,hj with
   |0,_=>exact⟨⟨.int .i64 0,by go_simp⟩,by go_simp⟩
   |1,_=>exact⟨⟨.int .i64 0,by go_simp⟩,by go_simp⟩
   |2,_=>exact⟨⟨.string ⟨#[]⟩,by go_simp⟩,by go_simp⟩
  ·show Q+2≤_;rw [hQ];simp
 case round =>
  clear hQ
  obtain⟨k,u,o,hk,rfl,rfl,rfl,OW,AS,BX,FR,HSZ,HX⟩:=hrel
  by_cases hlt:k<N
  ·have hkl:k<vss.length:=by have:=HN.out;omega
   have hd:decide ((k:Int)<(N:Int))=true:=by simp;omega
   obtain⟨b,o',rfl⟩:=HP.out (by decide) (by omega)
   have hv:=HM.out
   rw [HN.out]at hv
   obtain⟨c,⟨uv,rfl,sv⟩,hcell⟩:=hv.at k hkl
   have c0:=hcell 0 _ rfl
   simp only [show (Rep.slice Rep.val).size=1 from rfl,Nat.mul_one,Nat.add_zero]at c0
   replace c0:=HX.out.at c0
   obtain⟨pv,cv,rfl,_⟩:=sv.form
   have hst:=argsG_take es root vss k hkl
   rw [←AS.out]at hst
   have hol:o.length≤4096:=by rw [AS.out];have h1:=argsG_len es root (vss.take k);have h2:=List.length_take_le k vss;omega
   have hoy:okVal (evalE es root vss[k]):=ok_evalE HE.out.2.1 (vals_ok sv) root
   have SV:=Lib.hid sv
   generalize vss[k]=vals at c0 SV hst hoy
   obtain⟨y,hy⟩ : ∃y,y=evalE es root vals:=⟨_,rfl⟩
   rw [←hy]at hst hoy
   have HHY:=Lib.hid hy
   have HOY:=Lib.hid hoy
   have HST:=Lib.hid hst
   have e0:=cell_lt c0
   have b0:=BX.out.1
   have b1:=BX.out.2
   have B1:o.length+1≤maxLen:=by unfold maxLen;omega
   have B2:(o.length+1)*32≤140737488355328:=by omega
   clear hst hol hoy hy hv hcell sv
   go_wp2_with fail
   refine(eval_any _ es root _ vals _ (HE.out.1.ext HX.out.full) HE.out.2.2 (SV.out.ext HX.out.full)).mono ?_
   rintro e w1 ⟨rfl,x1⟩
   rw [←HHY.out]
   have X1:=Lib.hid x1
   obtain⟨yk,yn,ys⟩:=y
   clear x1 c0 b0 b1 e0
   dsimp only
   by_cases hyk:yk=0
   ·have hb1:(yk != 0)=false:=by simp [hyk]
    have HYK:=Lib.hid hyk
    clear hyk
    go_wp2_with fail
    go_roundg (N - (k+1))
    case measure=>omega
    case rel=>exact⟨k+1,u,o,by omega,rfl,by go_num,rfl,OW.out.ext (X1.out.alloc _),by show _=_;rw [HST.out,if_pos HYK.out,List.append_nil],⟨(X1.out.alloc _).at BX.out.1,(X1.out.alloc _).at BX.out.2⟩,FR.out.ext (X1.out.alloc _),Nat.le_trans HSZ.out (X1.out.alloc _).size,HX.out.trans (X1.out.alloc _)⟩
   ·have hb1:(yk != 0)=true:=by simp [hyk]
    have HYK:=Lib.hid hyk
    clear hyk
    go_wp2_with (at_builtin;go_loud (refine wpList_append_one Rep.val (fun _=>True) rfl _ _ 56 rfl (Q+2) 61 i3 _ 32 Tryz.underlying56 hi3 hz30 hz31 hz32 rfl (by decide) u o rfl (OW.out.ext ((X1.out.alloc _).alloc _)) ⟨w1.heap.size+1,0,none⟩ 1 ⟨yk,yn,ys⟩ [.int .i64 yk,.int .i64 yn,.string ys] rfl ⟨rfl,HOY.out⟩ (by have h:=cells_new (w1.alloc (.cells #[.int .i64 yk,.int .i64 yn,.string ys] 61)) [.int .i64 yk,.int .i64 yn,.string ys] 61;rw [show (w1.alloc (.cells #[.int .i64 yk,.int .i64 yn,.string ys] 61)).heap.size=w1.heap.size+1 by simp]at h;exact h) B1 B2 (by exact Nat.le_trans HSZ.out ((X1.out.alloc _).alloc _).size) ?_))
    intro g cap3 w3 own gr _
    have hbase : ∀x,u.ownBlock=some x→Q+2≤x:=fun x hx=>(OW.out.lt x hx).1
    have X2:=Lib.hid ((X1.out.alloc (.cells #[.int .i64 yk,.int .i64 yn,.string ys] 61)).alloc (.cells #[.int .i64 yk,.int .i64 yn,.string ys] 61))
    have OW3:=Lib.hid own
    have BX3:=Lib.hid (And.intro (cell_grown gr (X2.out.at BX.out.1) (fun x hx=>by have:=hbase x hx;omega)) (cell_grown gr (X2.out.at BX.out.2) (fun x hx=>by have:=hbase x hx;omega)))
    have FR3:=Lib.hid ((FR.out.ext X2.out).grown gr (fun e=>by have:=hbase _ e;omega))
    have HSZ3:=Lib.hid (Nat.le_trans HSZ.out (Nat.le_trans X2.out.size gr.size))
    have HX3:=Lib.hid (ext_grown (HX.out.trans X2.out) gr (fun x hx=>by have:=hbase x hx;have:=HQ.out;omega))
    clear own gr hbase X1 X2 OW BX FR HSZ HX
    go_wp2_with fail
    go_roundg (N - (k+1))
    case measure=>omega
    case rel=>exact⟨k+1,_,_,by omega,rfl,by go_num,rfl,OW3.out,by show _=_;rw [HST.out,if_neg HYK.out],BX3.out,FR3.out,HSZ3.out,HX3.out⟩
  ·have hkN:k=N:=by omega
   have hd : ¬(k:Int)<(N:Int):=by omega
   have hxt:o=argsG es root vss:=by rw [AS.out,hkN,HN.out,List.take_length]
   have HO:=Lib.hid hxt
   have hol:o.length≤4096:=by rw [hxt];have h1:=argsG_len es root vss;have:=HN.out;omega
   obtain⟨pu,cu,rfl,_⟩:=OW.out.shapeL
   have b0:=BX.out.1
   have b1:=BX.out.2
   have e0:=cell_lt b0
   have SU:=Lib.hid OW.out.slice
   obtain⟨⟨⟨z0,f0⟩,g0⟩,⟨⟨z1,f1⟩,g1⟩,⟨⟨z2,f2⟩,g2⟩⟩:=And.intro (FR.out 0 (by omega)) (And.intro (FR.out 1 (by omega)) (FR.out 2 (by omega)))
   have e5:=cell_lt f0
   have XF : ∀w' u v z,Ext wr w'→Ext w (((w'.setCell ⟨Q+1,0,none⟩ u).setCell ⟨Q+1,1,none⟩ v).setCell ⟨Q+1,2,none⟩ z):=fun w' u v z hx=>Below.setCell (Below.setCell (Below.setCell (HX.out.trans hx) (by have:=HQ.out;show w.heap.size≤Q+1;omega) _) (by have:=HQ.out;show w.heap.size≤Q+1;omega) _) (by have:=HQ.out;show w.heap.size≤Q+1;omega) _
   have HXF:=Lib.hid XF
   have HFR:=Lib.hid FR.out
   clear hxt hkN OW AS XF
   rcases(show kind=2∨kind=3∨kind=4∨(kind≠2∧kind≠3∧kind≠4)by omega)with rfl | rfl | rfl | hk9
   ·go_wp2_with fail
    refine(sum_any _ o _ SU.out (by omega)).mono ?_
    rintro e w5 ⟨rfl,x5⟩
    have HV:=Lib.hid (show aggE es 2 root vss=sumV o from by rw [HO.out];rfl)
    generalize sumV o=y at HV ⊢
    obtain⟨yk,yn,ys⟩:=y
    have X5:=Lib.hid x5
    clear f0 g0 f1 g1 f2 g2 b0 b1 e0 e5 x5
    obtain⟨⟨⟨z0,f0⟩,g0⟩,⟨⟨z1,f1⟩,g1⟩,⟨⟨z2,f2⟩,g2⟩⟩:=And.intro (HFR.out.ext X5.out 0 (by omega)) (And.intro (HFR.out.ext X5.out 1 (by omega)) (HFR.out.ext X5.out 2 (by omega)))
    have e5:=cell_lt f0
    unfold valV
    dsimp only
    go_wp2_with fail
    exact bodyPost_ret (v:= .agg #[.int .i64 yk,.int .i64 yn,.string ys]) (by simp [results,Tryz.results130,go_sem,f0,f1,f2]) rfl ⟨by rw [HV.out],HXF.out _ _ _ _ X5.out⟩
   ·by_cases hoe:o = []
    ·have hol0:((o.length:Int)==0)=true:=by simp [hoe]
     have HV:=Lib.hid (show aggE es 3 root vss=nV from by rw [HO.out]at hoe;unfold aggE;simp only [hoe,if_true];rfl)
     clear hoe
     go_wp2_with fail
     exact bodyPost_ret (v:= .agg #[.int .i64 0,.int .i64 0,.string ⟨#[]⟩]) (by simp [results,Tryz.results130,go_sem,f0,f1,f2]) rfl ⟨by rw [HV.out];rfl,HXF.out _ _ _ _ (Ext.refl _)⟩
    ·have hol0:((o.length:Int)==0)=false:=by simp [hoe]
     have HOE:=Lib.hid hoe
     have HV:=Lib.hid (show aggE es 3 root vss=pickMin o from by rw [HO.out]at hoe ⊢;unfold aggE;simp only [hoe,if_false];rfl)
     clear hoe
     go_wp2_with fail
     refine(pickMin_any _ o _ SU.out HOE.out).mono ?_
     rintro e w5 ⟨rfl,x5⟩
     generalize pickMin o=y at HV ⊢
     obtain⟨yk,yn,ys⟩:=y
     have X5:=Lib.hid x5
     clear f0 g0 f1 g1 f2 g2 b0 b1 e0 e5 x5
     obtain⟨⟨⟨z0,f0⟩,g0⟩,⟨⟨z1,f1⟩,g1⟩,⟨⟨z2,f2⟩,g2⟩⟩:=And.intro (HFR.out.ext X5.out 0 (by omega)) (And.intro (HFR.out.ext X5.out 1 (by omega)) (HFR.out.ext X5.out 2 (by omega)))
     have e5:=cell_lt f0
     unfold valV
     dsimp only
     go_wp2_with fail
     exact bodyPost_ret (v:= .agg #[.int .i64 yk,.int .i64 yn,.string ys]) (by simp [results,Tryz.results130,go_sem,f0,f1,f2]) rfl ⟨by rw [HV.out],HXF.out _ _ _ _ X5.out⟩
   ·by_cases hoe:o = []
    ·have hol0:((o.length:Int)==0)=true:=by simp [hoe]
     have HV:=Lib.hid (show aggE es 4 root vss=nV from by rw [HO.out]at hoe;unfold aggE;simp only [hoe,if_true];rfl)
     clear hoe
     go_wp2_with fail
     exact bodyPost_ret (v:= .agg #[.int .i64 0,.int .i64 0,.string ⟨#[]⟩]) (by simp [results,Tryz.results130,go_sem,f0,f1,f2]) rfl ⟨by rw [HV.out];rfl,HXF.out _ _ _ _ (Ext.refl _)⟩
    ·have hol0:((o.length:Int)==0)=false:=by simp [hoe]
     have HOE:=Lib.hid hoe
     have HV:=Lib.hid (show aggE es 4 root vss=pickMax o from by rw [HO.out]at hoe ⊢;unfold aggE;simp only [hoe,if_false];rfl)
     clear hoe
     go_wp2_with fail
     refine(pickMax_any _ o _ SU.out HOE.out).mono ?_
     rintro e w5 ⟨rfl,x5⟩
     generalize pickMax o=y at HV ⊢
     obtain⟨yk,yn,ys⟩:=y
     have X5:=Lib.hid x5
     clear f0 g0 f1 g1 f2 g2 b0 b1 e0 e5 x5
     obtain⟨⟨⟨z0,f0⟩,g0⟩,⟨⟨z1,f1⟩,g1⟩,⟨⟨z2,f2⟩,g2⟩⟩:=And.intro (HFR.out.ext X5.out 0 (by omega)) (And.intro (HFR.out.ext X5.out 1 (by omega)) (HFR.out.ext X5.out 2 (by omega)))
     have e5:=cell_lt f0
     unfold valV
     dsimp only
     go_wp2_with fail
     exact bodyPost_ret (v:= .agg #[.int .i64 yk,.int .i64 yn,.string ys]) (by simp [results,Tryz.results130,go_sem,f0,f1,f2]) rfl ⟨by rw [HV.out],HXF.out _ _ _ _ X5.out⟩
   ·have k2:(kind==2)=false:=by simp;omega
    have k3:(kind==3)=false:=by simp;omega
    have k4:(kind==4)=false:=by simp;omega
    have HV:=Lib.hid (show aggE es kind root vss=nV from by unfold aggE;rw [if_neg HK.out,if_neg hk9.1,if_neg hk9.2.1,if_neg hk9.2.2];split <;> rfl)
    clear hk9
    by_cases hoe:o = []
    ·have hol0:((o.length:Int)==0)=true:=by simp [hoe]
     clear hoe
     go_wp2_with fail
     exact bodyPost_ret (v:= .agg #[.int .i64 0,.int .i64 0,.string ⟨#[]⟩]) (by simp [results,Tryz.results130,go_sem,f0,f1,f2]) rfl ⟨by rw [HV.out];rfl,HXF.out _ _ _ _ (Ext.refl _)⟩
    ·have hol0:((o.length:Int)==0)=false:=by simp [hoe]
     clear hoe
     go_wp2_with fail
     exact bodyPost_ret (v:= .agg #[.int .i64 0,.int .i64 0,.string ⟨#[]⟩]) (by simp [results,Tryz.results130,go_sem,f0,f1,f2]) rfl ⟨by rw [HV.out];rfl,HXF.out _ _ _ _ (Ext.refl _)⟩
end Go.Proofs.YtombmdaohcjokaaGreatDoor
namespace Go.Proofs.YtombmdaohcjokaaGreatDoor
open Go.RowKit
end Go.Proofs.YtombmdaohcjokaaGreatDoor
namespace Go.Proofs.YtombmdaohcjokaaGreatDoor
open Go.RowKit
end Go.Proofs.YtombmdaohcjokaaGreatDoor
namespace Go.Proofs.YtombmdaohcjokaaGreatDoor
open Go.RowKit
end Go.Proofs.YtombmdaohcjokaaGreatDoor
namespace Go.Proofs.YtombmdaohcjokaaGreatDoor
open Go.RowKit
end Go.Proofs.YtombmdaohcjokaaGreatDoor
namespace Go.Proofs.YtombmdaohcjokaaGreatDoor
open Go.RowKit
end Go.Proofs.YtombmdaohcjokaaGreatDoor
namespace Go.Proofs.YtombmdaohcjokaaGreatDoor
open Go.RowKit
def r1:Row:=⟨[nV],[1]⟩
def r2:Row:=⟨[nV],[2]⟩
end Go.Proofs.YtombmdaohcjokaaGreatDoor
namespace Go.Proofs.YtombmdaohcjokaaGreatDoor
open Go.RowKit Go.Maps
def exC:List ExprI:= [⟨2,0,0,0,nV⟩,⟨2,0,0,1,nV⟩]
def keysL (k:Int):List Int:=if k % 4=0 then []else if k % 4=1 then [0]else if k % 4=2 then [1]else [0,1]
end Go.Proofs.YtombmdaohcjokaaGreatDoor
namespace Go.Proofs.YtombmdaohcjokaaGreatDoor
open Go.RowKit Go.Maps
end Go.Proofs.YtombmdaohcjokaaGreatDoor
namespace Go.Proofs.YtombmdaohcjokaaGreatDoor
open Go.RowKit Go.Maps
def aggsL (c:Int):List AggI:= [⟨1,0⟩,⟨2,0⟩,⟨3,c⟩,⟨4,c⟩]
def aggF (a:AggI) (vss:List (List Val)):Val:=aggVal a.kind a.arg vss
def allV (c:Int) (vss:List (List Val)):List Val:=(aggsL c).map fun a=>aggF a vss
theorem ok_sumV (xs:List Val):okVal (sumV xs):=by
 unfold sumV
 split
 ·rename_i h
  exact⟨by simp [intVal],by simp only [intVal];omega,by simp [intVal,maxLen]⟩
 ·exact ok_nV
end Go.Proofs.YtombmdaohcjokaaGreatDoor
namespace Go.Proofs.YtombmdaohcjokaaGreatDoor
open Go.RowKit Go.Deep
theorem ok_aggR (kind:Int) {xs:List Val} (h : ∀v∈xs,okVal v) (hl:xs.length≤1048576):okVal (aggR kind xs):=by
 have hn : ∀v∈nnV xs,okVal v:=fun v hv=>h v (List.mem_filter.1 hv).1
 unfold aggR bestMin bestMax
 split
 ·exact ok_intVal (by unfold fit64;omega)
 split
 ·exact ok_sumV xs
 split
 ·split
  ·exact ok_nV
  ·rename_i hne;exact hn _ (pickMin_mem hne)
 split
 ·split
  ·exact ok_nV
  ·rename_i hne;exact hn _ (pickMax_mem hne)
 exact ok_nV
end Go.Proofs.YtombmdaohcjokaaGreatDoor
