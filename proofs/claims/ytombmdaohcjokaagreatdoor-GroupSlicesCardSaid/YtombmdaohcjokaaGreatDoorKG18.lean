/- joined texts of a proof: AggG, RowG, RefV, DepR, RefT, BagO, BagP, GrpE, GrpC, GrpY, RefH -/
import Derived.Test.YtombmdaohcjokaaGreatDoorKG13
import Derived.Test.YtombmdaohcjokaaGreatDoorKG14
import Derived.Test.YtombmdaohcjokaaGreatDoorKG10
import Derived.Test.YtombmdaohcjokaaGreatDoorKG08
import Derived.Test.YtombmdaohcjokaaGreatDoorKG16
import Derived.Test.YtombmdaohcjokaaGreatDoorKG03
import Derived.Test.YtombmdaohcjokaaGreatDoorKG07
import Derived.Test.YtombmdaohcjokaaGreatDoorKG09
import Derived.Test.YtombmdaohcjokaaGreatDoorKG11
import Derived.Deep.DeepCutAuto
namespace Go.Proofs.YtombmdaohcjokaaGreatDoor
open Go.RowKit
set_option maxRecDepth 100000 in
set_option maxHeartbeats 4000000 in
theorem project_gen (v:Value) (es:List ExprI) (kv:Value) (keys:List Int) (vv:Value) (vals:List Val) (w:World) (he:SliceOf Rep.expr w.cell? v es) (hl:es.length≤1000) (hk:SliceOf Rep.int w.cell? kv keys) (hkl:keys.length≤1000) (hv:SliceOf Rep.val w.cell? vv vals) :
  Calls Tryz.prog 80 #[v,kv,vv] w fun e w'=> ∃v',e = .returned v'∧OwnOf Rep.val w' (fun _=>True) w.heap.size 61 v' (projE es keys vals)∧Ext w w':=by
 obtain⟨i3,hi3,hz30,hz31,hz32⟩:=info_parts info_val3
 obtain⟨pe,ce,rfl,_⟩:=he.form
 obtain⟨pv,cv,rfl,_⟩:=hv.form
 obtain⟨p,cap,rfl,hc1,hc2,hp⟩:=hk.form
 obtain⟨N,hN⟩ : ∃N,N=keys.length:=⟨_,rfl⟩
 have HK:=Lib.hid hk
 rw [←hN]
 have HN:=Lib.hid hN
 have HP:=Lib.hid hp
 have HE:=Lib.hid he
 have HV:=Lib.hid hv
 have HC:=Lib.hid (expr_oks he)
 have HL:=Lib.hid hl
 have hNl:N≤1000:=by omega
 clear he hl hk hkl hv hp hc1 hc2 hN
 go_enter Tryz.func80,Tryz.ntmps80
 go_wp2_with fail
 go_loopg [7,12] N (fun gk vo vi wr=> ∃(k:Nat) (u:Value) (o:List Val),k≤N∧gk=N - k∧vi = .int .i64 k∧u=vo∧Hid (OwnOf Rep.val wr (fun _=>True) w.heap.size 61 u o)∧Hid (o=projE es (keys.take k) vals)∧Ext w wr)
 case atStart=>exact⟨0,_,[],by omega,rfl,rfl,rfl,OwnOf.nil _ _ _ _ _,rfl,Ext.refl w⟩
 case round =>
  obtain⟨k,u,o,hk,rfl,rfl,rfl,OW,AS,hx⟩:=hrel
  by_cases hlt:k<N
  ·have hkl:k<keys.length:=by have:=HN.out;omega
   have hd:decide ((k:Int)<(N:Int))=true:=by simp;omega
   obtain⟨b,o',rfl⟩:=HP.out (by decide) (by omega)
   have hv:=HK.out
   rw [←HN.out]at hv
   obtain⟨c0,_⟩:=int_at hv k hkl
   replace c0:=hx.at c0
   have hst:=projE_take es keys vals k hkl
   have hol:o.length≤1000:=by rw [AS.out];unfold projE;rw [List.length_map,List.length_take];omega
   rw [←AS.out]at hst
   generalize keys[k]=x at c0 hst
   obtain⟨y,hy⟩ : ∃y,y=evalE es x vals:=⟨_,rfl⟩
   have hoy:okVal y:=by rw [hy];exact ok_evalE HC.out (vals_ok HV.out) _
   have e0:=cell_lt c0
   have HST:=Lib.hid hst
   have HHY:=Lib.hid hy
   have HOY:=Lib.hid hoy
   have B1:o.length+1≤maxLen:=by unfold maxLen;omega
   have B2:(o.length+1)*32≤140737488355328:=by omega
   clear hst hv hol hy hoy
   go_wp2_with fail
   refine(eval_any _ es x _ vals _ (HE.out.ext hx.full) HL.out (HV.out.ext hx.full)).mono ?_
   rintro e w1 ⟨rfl,x1⟩
   rw [←HHY.out]
   have HX1:=Lib.hid x1
   obtain⟨yk,yn,ys⟩:=y
   clear x1
   dsimp only
   go_wp2_with (at_builtin;go_loud (refine wpList_append_one Rep.val (fun _=>True) rfl _ _ 56 rfl w.heap.size 61 i3 _ 32 Tryz.underlying56 hi3 hz30 hz31 hz32 rfl (by decide) u o rfl (OW.out.ext (HX1.out.alloc _)) ⟨w1.heap.size,0,none⟩ 1 ⟨yk,yn,ys⟩ [.int .i64 yk,.int .i64 yn,.string ys] rfl ⟨rfl,HOY.out⟩ (by exact cells_new w1 [.int .i64 yk,.int .i64 yn,.string ys] _) B1 B2 (by exact(hx.trans (HX1.out.alloc _)).size) ?_))
   intro g cap3 w3 own gr _
   have hxx:Ext w w3:=Ext.grownNew (hx.trans (HX1.out.alloc _)) gr OW.out.base
   have OW2:=Lib.hid own
   clear own gr
   go_wp2_with fail
   go_roundg (N - (k+1))
   case measure=>omega
   case rel=>exact⟨k+1,_,_,by omega,rfl,by go_num,rfl,OW2.out,by show _=_;rw [HST.out,←HHY.out],hxx⟩
  ·have hkN:k=N:=by omega
   have hd : ¬(k:Int)<(N:Int):=by omega
   have HF:=Lib.hid (show o=projE es keys vals from by
    have h:=AS.out
    rw [hkN,HN.out,List.take_length]at h
    exact h)
   clear hkN
   go_wp2_with fail
   go_ret
   exact⟨u,rfl,by rw [←HF.out];exact OW.out,hx⟩
set_option maxRecDepth 100000 in
set_option maxHeartbeats 8000000 in
theorem aggregate_gen (v:Value) (es:List ExprI) (kind:Int) (root:Int) (mv:Value) (vss:List (List Val)) (w:World) (he:SliceOf Rep.expr w.cell? v es) (hel:es.length≤1000) (hm:SliceOf (Rep.slice Rep.val) w.cell? mv vss) (hml:vss.length≤4096) (hk:kind≠1) :
  Calls Tryz.prog 130 #[v,.agg #[.int .i64 kind,.int .i64 root],mv] w fun e w'=>e = .returned (valV (aggE es kind root vss))∧Ext w w':=by
 obtain⟨i3,hi3,hz30,hz31,hz32⟩:=info_parts info_val3
 obtain⟨pe,ce,rfl,_⟩:=he.form
 obtain⟨p,cap,rfl,hc1,hc2,hp⟩:=hm.form
 obtain⟨N,hN⟩ : ∃N,N=vss.length:=⟨_,rfl⟩
 have HM:=Lib.hid hm
 rw [←hN]at HM
 rw [←hN]
 have HN:=Lib.hid hN
 have HP:=Lib.hid hp
 have HE:=Lib.hid (And.intro he (And.intro (expr_oks he) hel))
 have hNl:N≤4096:=by omega
 have HK:=Lib.hid hk
 have hk1:(kind==1)=false:=by simp;omega
 clear hm hN hp hc1 hc2 he hel hml hk
 go_enter Tryz.func130,Tryz.ntmps130
 go_wp2_with fail
 obtain⟨Q,hQ⟩ : ∃q,q=w.heap.size:=⟨_,rfl⟩
 have HQ:=Lib.hid hQ
 rw [←hQ]
 go_loopg [7,19] N (fun gk vo vi wr=> ∃(k:Nat) (u:Value) (o:List Val),k≤N∧gk=N - k∧vi = .int .i64 k∧u=vo∧Hid (OwnOf Rep.val wr (fun _=>True) (Q+2) 61 u o)∧Hid (o=argsG es root (vss.take k))∧Hid (wr.cell? ⟨Q,0,none⟩=some (.int .i64 kind)∧wr.cell? ⟨Q,1,none⟩=some (.int .i64 root))∧Hid (FreeN wr (Q+1) 3)∧Hid (Q+2≤wr.heap.size)∧Hid (Ext w wr))
 case atStart =>
  refine⟨0,_,[],by omega,rfl,rfl,rfl,OwnOf.nil _ _ _ _ _,rfl,⟨?_,?_⟩,fun j hj=> ?_,?_,((Ext.refl w).alloc _).alloc _⟩
  ·rw [hQ];go_simp
  ·rw [hQ];go_simp
  ·rw [hQ]
   match j,hj with
   |0,_=>exact⟨⟨.int .i64 0,by go_simp⟩,by go_simp⟩
   |1,_=>exact⟨⟨.int .i64 0,by go_simp⟩,by go_simp⟩
   |2,_=>exact⟨⟨.string ⟨#[]⟩,by go_simp⟩,by go_simp⟩
  ·show Q+2≤_;rw [hQ];simp
 case round =>
  clear hQ
  obtain⟨k,u,o,hk,rfl,rfl,rfl,OW,AS,BX,FR,HSZ,HX⟩:=hrel
  by_cases hlt:k<N
  ·have hkl:k<vss.length:=by have:=HN.out;omega
   have hd:decide ((k:Int)<(N:Int))=true:=by simp;omega
   obtain⟨b,o',rfl⟩:=HP.out (by decide) (by omega)
   have hv:=HM.out
   rw [HN.out]at hv
   obtain⟨c,⟨uv,rfl,sv⟩,hcell⟩:=hv.at k hkl
   have c0:=hcell 0 _ rfl
   simp only [show (Rep.slice Rep.val).size=1 from rfl,Nat.mul_one,Nat.add_zero]at c0
   replace c0:=HX.out.at c0
   obtain⟨pv,cv,rfl,_⟩:=sv.form
   have hst:=argsG_take es root vss k hkl
   rw [←AS.out]at hst
   have hol:o.length≤4096:=by rw [AS.out];have h1:=argsG_len es root (vss.take k);have h2:=List.length_take_le k vss;omega
   have hoy:okVal (evalE es root vss[k]):=ok_evalE HE.out.2.1 (vals_ok sv) root
   have SV:=Lib.hid sv
   generalize vss[k]=vals at c0 SV hst hoy
   obtain⟨y,hy⟩ : ∃y,y=evalE es root vals:=⟨_,rfl⟩
   rw [←hy]at hst hoy
   have HHY:=Lib.hid hy
   have HOY:=Lib.hid hoy
   have HST:=Lib.hid hst
   have e0:=cell_lt c0
   have b0:=BX.out.1
   have b1:=BX.out.2
   have B1:o.length+1≤maxLen:=by unfold maxLen;omega
   have B2:(o.length+1)*32≤140737488355328:=by omega
   clear hst hol hoy hy hv hcell sv
   go_wp2_with fail
   refine(eval_any _ es root _ vals _ (HE.out.1.ext HX.out.full) HE.out.2.2 (SV.out.ext HX.out.full)).mono ?_
   rintro e w1 ⟨rfl,x1⟩
   rw [←HHY.out]
   have X1:=Lib.hid x1
   obtain⟨yk,yn,ys⟩:=y
   clear x1 c0 b0 b1 e0
   dsimp only
   by_cases hyk:yk=0
   ·have hb1:(yk != 0)=false:=by simp [hyk]
    have HYK:=Lib.hid hyk
    clear hyk
    go_wp2_with fail
    go_roundg (N - (k+1))
    case measure=>omega
    case rel=>exact⟨k+1,u,o,by omega,rfl,by go_num,rfl,OW.out.ext (X1.out.alloc _),by show _=_;rw [HST.out,if_pos HYK.out,List.append_nil],⟨(X1.out.alloc _).at BX.out.1,(X1.out.alloc _).at BX.out.2⟩,FR.out.ext (X1.out.alloc _),Nat.le_trans HSZ.out (X1.out.alloc _).size,HX.out.trans (X1.out.alloc _)⟩
   ·have hb1:(yk != 0)=true:=by simp [hyk]
    have HYK:=Lib.hid hyk
    clear hyk
    go_wp2_with (at_builtin;go_loud (refine wpList_append_one Rep.val (fun _=>True) rfl _ _ 56 rfl (Q+2) 61 i3 _ 32 Tryz.underlying56 hi3 hz30 hz31 hz32 rfl (by decide) u o rfl (OW.out.ext ((X1.out.alloc _).alloc _)) ⟨w1.heap.size+1,0,none⟩ 1 ⟨yk,yn,ys⟩ [.int .i64 yk,.int .i64 yn,.string ys] rfl ⟨rfl,HOY.out⟩ (by have h:=cells_new (w1.alloc (.cells #[.int .i64 yk,.int .i64 yn,.string ys] 61)) [.int .i64 yk,.int .i64 yn,.string ys] 61;rw [show (w1.alloc (.cells #[.int .i64 yk,.int .i64 yn,.string ys] 61)).heap.size=w1.heap.size+1 by simp]at h;exact h) B1 B2 (by exact Nat.le_trans HSZ.out ((X1.out.alloc _).alloc _).size) ?_))
    intro g cap3 w3 own gr _
    have hbase : ∀x,u.ownBlock=some x→Q+2≤x:=fun x hx=>(OW.out.lt x hx).1
    have X2:=Lib.hid ((X1.out.alloc (.cells #[.int .i64 yk,.int .i64 yn,.string ys] 61)).alloc (.cells #[.int .i64 yk,.int .i64 yn,.string ys] 61))
    have OW3:=Lib.hid own
    have BX3:=Lib.hid (And.intro (cell_grown gr (X2.out.at BX.out.1) (fun x hx=>by have:=hbase x hx;omega)) (cell_grown gr (X2.out.at BX.out.2) (fun x hx=>by have:=hbase x hx;omega)))
    have FR3:=Lib.hid ((FR.out.ext X2.out).grown gr (fun e=>by have:=hbase _ e;omega))
    have HSZ3:=Lib.hid (Nat.le_trans HSZ.out (Nat.le_trans X2.out.size gr.size))
    have HX3:=Lib.hid (ext_grown (HX.out.trans X2.out) gr (fun x hx=>by have:=hbase x hx;have:=HQ.out;omega))
    clear own gr hbase X1 X2 OW BX FR HSZ HX
    go_wp2_with fail
    go_roundg (N - (k+1))
    case measure=>omega
    case rel=>exact⟨k+1,_,_,by omega,rfl,by go_num,rfl,OW3.out,by show _=_;rw [HST.out,if_neg HYK.out],BX3.out,FR3.out,HSZ3.out,HX3.out⟩
  ·have hkN:k=N:=by omega
   have hd : ¬(k:Int)<(N:Int):=by omega
   have hxt:o=argsG es root vss:=by rw [AS.out,hkN,HN.out,List.take_length]
   have HO:=Lib.hid hxt
   have hol:o.length≤4096:=by rw [hxt];have h1:=argsG_len es root vss;have:=HN.out;omega
   obtain⟨pu,cu,rfl,_⟩:=OW.out.shapeL
   have b0:=BX.out.1
   have b1:=BX.out.2
   have e0:=cell_lt b0
   have SU:=Lib.hid OW.out.slice
   obtain⟨⟨⟨z0,f0⟩,g0⟩,⟨⟨z1,f1⟩,g1⟩,⟨⟨z2,f2⟩,g2⟩⟩:=And.intro (FR.out 0 (by omega)) (And.intro (FR.out 1 (by omega)) (FR.out 2 (by omega)))
   have e5:=cell_lt f0
   have XF : ∀w' u v z,Ext wr w'→Ext w (((w'.setCell ⟨Q+1,0,none⟩ u).setCell ⟨Q+1,1,none⟩ v).setCell ⟨Q+1,2,none⟩ z):=fun w' u v z hx=>Below.setCell (Below.setCell (Below.setCell (HX.out.trans hx) (by have:=HQ.out;show w.heap.size≤Q+1;omega) _) (by have:=HQ.out;show w.heap.size≤Q+1;omega) _) (by have:=HQ.out;show w.heap.size≤Q+1;omega) _
   have HXF:=Lib.hid XF
   have HFR:=Lib.hid FR.out
   clear hxt hkN OW AS XF
   rcases(show kind=2∨kind=3∨kind=4∨(kind≠2∧kind≠3∧kind≠4)by omega)with rfl | rfl | rfl | hk9
   ·go_wp2_with fail
    refine(sum_any _ o _ SU.out (by omega)).mono ?_
    rintro e w5 ⟨rfl,x5⟩
    have HV:=Lib.hid (show aggE es 2 root vss=sumV o from by rw [HO.out];rfl)
    generalize sumV o=y at HV ⊢
    obtain⟨yk,yn,ys⟩:=y
    have X5:=Lib.hid x5
    clear f0 g0 f1 g1 f2 g2 b0 b1 e0 e5 x5
    obtain⟨⟨⟨z0,f0⟩,g0⟩,⟨⟨z1,f1⟩,g1⟩,⟨⟨z2,f2⟩,g2⟩⟩:=And.intro (HFR.out.ext X5.out 0 (by omega)) (And.intro (HFR.out.ext X5.out 1 (by omega)) (HFR.out.ext X5.out 2 (by omega)))
    have e5:=cell_lt f0
    unfold valV
    dsimp only
    go_wp2_with fail
    exact bodyPost_ret (v:= .agg #[.int .i64 yk,.int .i64 yn,.string ys]) (by simp [results,Tryz.results130,go_sem,f0,f1,f2]) rfl ⟨by rw [HV.out],HXF.out _ _ _ _ X5.out⟩
   ·by_cases hoe:o = []
    ·have hol0:((o.length:Int)==0)=true:=by simp [hoe]
     have HV:=Lib.hid (show aggE es 3 root vss=nV from by rw [HO.out]at hoe;unfold aggE;simp only [hoe,if_true];rfl)
     clear hoe
     go_wp2_with fail
     exact bodyPost_ret (v:= .agg #[.int .i64 0,.int .i64 0,.string ⟨#[]⟩]) (by simp [results,Tryz.results130,go_sem,f0,f1,f2]) rfl ⟨by rw [HV.out];rfl,HXF.out _ _ _ _ (Ext.refl _)⟩
    ·have hol0:((o.length:Int)==0)=false:=by simp [hoe]
     have HOE:=Lib.hid hoe
     have HV:=Lib.hid (show aggE es 3 root vss=pickMin o from by rw [HO.out]at hoe ⊢;unfold aggE;simp only [hoe,if_false];rfl)
     clear hoe
     go_wp2_with fail
     refine(pickMin_any _ o _ SU.out HOE.out).mono ?_
     rintro e w5 ⟨rfl,x5⟩
     generalize pickMin o=y at HV ⊢
     obtain⟨yk,yn,ys⟩:=y
     have X5:=Lib.hid x5
     clear f0 g0 f1 g1 f2 g2 b0 b1 e0 e5 x5
     obtain⟨⟨⟨z0,f0⟩,g0⟩,⟨⟨z1,f1⟩,g1⟩,⟨⟨z2,f2⟩,g2⟩⟩:=And.intro (HFR.out.ext X5.out 0 (by omega)) (And.intro (HFR.out.ext X5.out 1 (by omega)) (HFR.out.ext X5.out 2 (by omega)))
     have e5:=cell_lt f0
     unfold valV
     dsimp only
     go_wp2_with fail
     exact bodyPost_ret (v:= .agg #[.int .i64 yk,.int .i64 yn,.string ys]) (by simp [results,Tryz.results130,go_sem,f0,f1,f2]) rfl ⟨by rw [HV.out],HXF.out _ _ _ _ X5.out⟩
   ·by_cases hoe:o = []
    ·have hol0:((o.length:Int)==0)=true:=by simp [hoe]
     have HV:=Lib.hid (show aggE es 4 root vss=nV from by rw [HO.out]at hoe;unfold aggE;simp only [hoe,if_true];rfl)
     clear hoe
     go_wp2_with fail
     exact bodyPost_ret (v:= .agg #[.int .i64 0,.int .i64 0,.string ⟨#[]⟩]) (by simp [results,Tryz.results130,go_sem,f0,f1,f2]) rfl ⟨by rw [HV.out];rfl,HXF.out _ _ _ _ (Ext.refl _)⟩
    ·have hol0:((o.length:Int)==0)=false:=by simp [hoe]
     have HOE:=Lib.hid hoe
     have HV:=Lib.hid (show aggE es 4 root vss=pickMax o from by rw [HO.out]at hoe ⊢;unfold aggE;simp only [hoe,if_false];rfl)
     clear hoe
     go_wp2_with fail
     refine(pickMax_any _ o _ SU.out HOE.out).mono ?_
     rintro e w5 ⟨rfl,x5⟩
     generalize pickMax o=y at HV ⊢
     obtain⟨yk,yn,ys⟩:=y
     have X5:=Lib.hid x5
     clear f0 g0 f1 g1 f2 g2 b0 b1 e0 e5 x5
     obtain⟨⟨⟨z0,f0⟩,g0⟩,⟨⟨z1,f1⟩,g1⟩,⟨⟨z2,f2⟩,g2⟩⟩:=And.intro (HFR.out.ext X5.out 0 (by omega)) (And.intro (HFR.out.ext X5.out 1 (by omega)) (HFR.out.ext X5.out 2 (by omega)))
     have e5:=cell_lt f0
     unfold valV
     dsimp only
     go_wp2_with fail
     exact bodyPost_ret (v:= .agg #[.int .i64 yk,.int .i64 yn,.string ys]) (by simp [results,Tryz.results130,go_sem,f0,f1,f2]) rfl ⟨by rw [HV.out],HXF.out _ _ _ _ X5.out⟩
   ·have k2:(kind==2)=false:=by simp;omega
    have k3:(kind==3)=false:=by simp;omega
    have k4:(kind==4)=false:=by simp;omega
    have HV:=Lib.hid (show aggE es kind root vss=nV from by unfold aggE;rw [if_neg HK.out,if_neg hk9.1,if_neg hk9.2.1,if_neg hk9.2.2];split <;> rfl)
    clear hk9
    by_cases hoe:o = []
    ·have hol0:((o.length:Int)==0)=true:=by simp [hoe]
     clear hoe
     go_wp2_with fail
     exact bodyPost_ret (v:= .agg #[.int .i64 0,.int .i64 0,.string ⟨#[]⟩]) (by simp [results,Tryz.results130,go_sem,f0,f1,f2]) rfl ⟨by rw [HV.out];rfl,HXF.out _ _ _ _ (Ext.refl _)⟩
    ·have hol0:((o.length:Int)==0)=false:=by simp [hoe]
     clear hoe
     go_wp2_with fail
     exact bodyPost_ret (v:= .agg #[.int .i64 0,.int .i64 0,.string ⟨#[]⟩]) (by simp [results,Tryz.results130,go_sem,f0,f1,f2]) rfl ⟨by rw [HV.out];rfl,HXF.out _ _ _ _ (Ext.refl _)⟩
end Go.Proofs.YtombmdaohcjokaaGreatDoor
namespace Go.Proofs.YtombmdaohcjokaaGreatDoor
open Go.RowKit
set_option maxRecDepth 100000 in
set_option maxHeartbeats 8000000 in
theorem row_gen (G:Nat) (ve:Value) (va:Value) (aggs:List AggI) (kv:Value) (key:List Val) (tv:Value) (ms:List Tup) (t:Int) (w:World) (hg0:w.cell? ⟨G,0,none⟩=some ve) (hve:ShSl ve) (hg1:w.cell? ⟨G,1,none⟩=some va) (ha:SliceOf Rep.agg w.cell? va aggs) (F:AggI→List (List Val)→Val) (hF : ∀a∈aggs,okVal (F a (memV ms t))∧ ∀mv wx,Ext w wx→SliceOf (Rep.slice Rep.val) wx.cell? mv (memV ms t)→Calls Tryz.prog 130 #[ve,.agg #[.int .i64 a.kind,.int .i64 a.arg],mv] wx fun e w'=>e = .returned (valV (F a (memV ms t)))∧Ext wx w') (hal:aggs.length≤1000)
  (hk:SliceOf Rep.val w.cell? kv key) (hkl:key.length≤1000) (hm:SliceOf Rep.tup w.cell? tv ms) (hml:ms.length≤4096) (hmf : ∀m∈ms,m.lin.length≤256) :
  Calls Tryz.prog 83 #[.pointer (some ⟨G,0,none⟩),kv,tv,.int .i64 t] w fun e w'=> ∃a b,e = .returned (.tuple #[.agg #[a,b],.bool (decide (0<(memV ms t).length))])∧SliceOf Rep.val (on w' (since w)) a (gRow (fun vss=>aggs.map fun a=>F a vss) key ms t).vals∧SliceOf Rep.int (on w' (since w)) b (gRow (fun vss=>aggs.map fun a=>F a vss) key ms t).lin∧Ext w w':=by
 obtain⟨i2,hi2,hz20,hz21,hz22⟩:=info_parts info_ints
 obtain⟨i3,hi3,hz30,hz31,hz32⟩:=info_parts info_val3
 obtain⟨i4,hi4,hz40,hz41,hz42⟩:=info_parts info_vals
 obtain⟨pe,ne,ce,rfl⟩:=hve
 obtain⟨pa,ca,rfl,_,_,hpa⟩:=ha.form
 obtain⟨pk,ck,rfl,_⟩:=hk.form
 obtain⟨p,cap,rfl,hc1,hc2,hp⟩:=hm.form
 obtain⟨N,hN⟩ : ∃N,N=ms.length:=⟨_,rfl⟩
 have HV:=Lib.hid hm
 rw [←hN]
 have HN:=Lib.hid hN
 have HP:=Lib.hid hp
 have HA:=Lib.hid ha
 have HF:=Lib.hid hF
 have HPA:=Lib.hid hpa
 have HK:=Lib.hid hk
 have HMF:=Lib.hid hmf
 have HAL:=Lib.hid hal
 have HKL:=Lib.hid hkl
 have HG:=Lib.hid (And.intro hg0 hg1)
 have hNl:N≤4096:=by omega
 clear hm hN hp hc1 hc2 ha hF hpa hk hmf hg0 hg1 hml hal hkl
 go_enter Tryz.func83,Tryz.ntmps83
 go_wp2_with fail
 go_loopg [10,11,19] N (fun gk vm vl vi wr=> ∃(k:Nat) (um ul:Value),k≤N∧gk=N - k∧vi = .int .i64 k∧um=vm∧ul=vl∧Hid (OwnOf (Rep.slice Rep.val) wr (fun x=>x<w.heap.size) (w.heap.size+1) 56 um (memV (ms.take k) t))∧Hid (OwnOf Rep.int wr (fun _=>True) (w.heap.size+1) 3 ul (memL (ms.take k) t))∧Hid (Apart um ul)∧Hid (FreeN wr w.heap.size 2)∧Hid (w.heap.size+1≤wr.heap.size)∧Ext w wr)
 case atStart=>exact⟨0,_,_,by omega,rfl,rfl,rfl,rfl,OwnOf.nil _ _ _ _ _,OwnOf.nil _ _ _ _ _,fun k hk=>(by cases hk),(fun j hj=>by
  rcases(by omega:j=0∨j=1)with rfl | rfl
  ·exact⟨⟨_,by go_simp;rfl⟩,by go_simp⟩
  ·exact⟨⟨_,by go_simp;rfl⟩,by go_simp⟩),by show w.heap.size+1≤_;simp,(Ext.refl w).alloc _⟩
 case round =>
  obtain⟨k,um,ul,hk,rfl,rfl,rfl,rfl,OM,OL,AP,FR,HSZ,hx⟩:=hrel
  by_cases hlt:k<N
  ·have hkl:k<ms.length:=by have:=HN.out;omega
   have hd:decide ((k:Int)<(N:Int))=true:=by simp;omega
   obtain⟨b,o',rfl⟩:=HP.out (by decide) (by omega)
   have hv:=HV.out
   rw [←HN.out]at hv
   obtain⟨ta,tb,c0,c1,c2,c3,g0,g1,r1,r2⟩:=tup_at hv k hkl
   obtain⟨pv,kv',ta',_⟩:=g0.form
   obtain⟨pl,kl,tb',_⟩:=g1.form
   subst ta' tb'
   replace c0:=hx.at c0
   replace c1:=hx.at c1
   replace c2:=hx.at c2
   replace c3:=hx.at c3
   obtain⟨hst1,hst2⟩:=mem_take ms t k hkl
   have hml:(memV (ms.take k) t).length≤4096:=by unfold memV;rw [List.length_map];exact Nat.le_trans (List.length_filter_le _ _) (Nat.le_trans (List.length_take_le _ _) (by omega))
   have hll:(memL (ms.take k) t).length≤1048576:=by
    have h1:=memL_len (l:=ms.take k) (n:=256) (fun u hu=>HMF.out u (List.mem_of_mem_take hu)) t
    have h2:=List.length_take_le k ms
    omega
   have hlk:=HMF.out ms[k] (List.getElem_mem hkl)
   generalize ms[k]=y at c0 c1 c2 c3 g0 g1 r1 r2 hst1 hst2 hlk
   obtain⟨vs,f,tt,ln⟩:=y
   dsimp only at c0 c1 c2 c3 g0 g1 r1 r2 hst1 hst2 hlk
   have HST1:=Lib.hid hst1
   have HST2:=Lib.hid hst2
   have G0:=Lib.hid g0
   have G1:=Lib.hid g1
   have e0:=cell_lt c0
   obtain⟨mv,hmv⟩ : ∃x,x=memV (ms.take k) t:=⟨_,rfl⟩
   obtain⟨ml,hml2⟩ : ∃x,x=memL (ms.take k) t:=⟨_,rfl⟩
   rw [←hmv]at OM hml hst1
   rw [←hml2]at OL hll hst2
   have HST1:=Lib.hid hst1
   have HST2:=Lib.hid hst2
   have HLK:=Lib.hid hlk
   clear hst1 hst2 g0 g1 r1 r2 hv hmv hml2 hlk
   go_wp2_with fail
   refine(includes_day f tt t _).mono ?_
   rintro e w1 ⟨rfl,x1⟩
   have d0:w1.cell? ⟨wr.heap.size,0,none⟩=some (.slice pv vs.length kv'):=x1.at (by go_simp)
   have d3:w1.cell? ⟨wr.heap.size,3,none⟩=some (.slice pl ln.length kl):=x1.at (by go_simp)
   have X1:=Lib.hid (show Ext wr w1 from ((Ext.refl wr).alloc _).trans x1)
   have e1:=cell_lt d0
   clear x1 c0 c1 c2 c3 e0
   cases hvb:(validB f tt&&decide (f≤t)&&decide (t<tt))with
   |true =>
    have HVB:=Lib.hid hvb
    clear hvb
    have B1:mv.length+1≤maxLen:=by unfold maxLen;omega
    have B2:(mv.length+1)*24≤140737488355328:=by omega
    go_wp2_with (at_builtin;go_loud (refine wpList_append_one (Rep.slice Rep.val) (fun x=>x<w.heap.size) rfl _ _ 163 rfl (w.heap.size+1) 56 i4 _ 24 Tryz.underlying163 hi4 hz40 hz41 hz42 rfl (by decide) um mv rfl (OM.out.ext (X1.out.alloc _)) ⟨w1.heap.size,0,none⟩ 1 vs [.slice pv vs.length kv'] rfl ?c1 (by exact cells_new w1 [.slice pv vs.length kv'] _) B1 B2 (Nat.le_trans HSZ.out (X1.out.alloc _).size) ?_))
    case c1 =>
     have hs:Sub w.cell? (on (w1.alloc (.cells #[.slice pv vs.length kv'] 56)) (avoid (fun x=>x<w.heap.size) um)):=(full_on w _ fun _ h=>h).trans (old_avoid (hx.trans (X1.out.alloc _)) ((OM.out.ext (X1.out.alloc _)).weak (fun _ _ h=>h) (Nat.le_succ _)))
     exact⟨_,rfl,G0.out.ext hs⟩
    intro g2 cap2 w2 own2 gr2 hg2
    have X1a:=X1.out.alloc (.cells #[.slice pv vs.length kv'] 56)
    have hub : ∀x,um.ownBlock=some x→w.heap.size+1≤x∧x<wr.heap.size:=fun x hx=>OM.out.lt x hx
    have hlb : ∀x,ul.ownBlock=some x→w.heap.size+1≤x∧x<wr.heap.size:=fun x hx=>OL.out.lt x hx
    have D3:=cell_grown gr2 (((Ext.refl w1).alloc (.cells #[.slice pv vs.length kv'] 56)).at d3) (fun x hx=>by have:=(hub x hx).2;omega)
    have hg2':um.ownBlock=some g2∨g2=(w1.alloc (.cells #[.slice pv vs.length kv'] 56)).heap.size:=by rcases hg2 with h | h;exact .inl h;exact .inr (by rw [h];simp)
    have OL2:=Lib.hid (own_apart flat_int' (OL.out.ext X1a) gr2 AP.out.symm)
    have OM2:=Lib.hid own2
    have AP2:=Lib.hid (show Apart ul (.slice (some ⟨g2,0,none⟩) (mv.length+1) cap2)from AP.out.symm.grow (fun x hx=>((OL.out.ext X1a).lt x hx).2) hg2')
    have FR2:=Lib.hid ((FR.out.ext X1a).grown gr2 (fun e=>by have:=(hub _ e).1;omega))
    have HX2:=Lib.hid (ext_grown (hx.trans X1a) gr2 (fun x hx=>by have:=(hub x hx).1;omega))
    have HS2:=Lib.hid (show w.heap.size+1≤w2.heap.size from Nat.le_trans HSZ.out (Nat.le_trans X1a.size gr2.size))
    have HLB:=Lib.hid hlb
    have B3:ml.length+ln.length≤maxLen:=by have:=HLK.out;unfold maxLen;omega
    have B4:(ml.length+ln.length)*8≤140737488355328:=by have:=HLK.out;omega
    have e2:=cell_lt D3
    clear own2 gr2 hg2 hg2' X1a hub hlb d0 d3 e1 OM OL AP FR hx HSZ
    go_wp2_with (at_builtin;go_loud (refine wpList_append_all Rep.int (fun _=>True) rfl _ _ 29 rfl (w.heap.size+1) 3 i2 _ 8 Tryz.underlying29 hi2 hz20 hz21 hz22 rfl (by decide) ul ml rfl OL2.out (.slice pl ln.length kl) ln rfl (G1.out.away flat_int' HX2.out (fun x hx=>by have:=(HLB.out x hx).1;omega)) B3 B4 HS2.out ?_))
    intro v3 w3 own3 gr3 hg3
    have hlb2 : ∀x,ul.ownBlock=some x→w.heap.size+1≤x:=fun x hx=>(HLB.out x hx).1
    have OM3:=Lib.hid (own_grown OM2.out gr3 (fun x hx e=>by have:=hlb2 x e;omega) (fun x hx e=>AP2.out x e hx))
    have AP3:=Lib.hid (show Apart (.slice (some ⟨g2,0,none⟩) (mv.length+1) cap2) v3 from fun x hx e=>by
     rcases hg3 with h | h
     ·rw [h]at e;exact AP2.out x e hx
     ·rw [h]at e
      have:=(OM2.out.lt x hx).2
      have:=Option.some.inj e
      omega)
    have FR3:=Lib.hid (FR2.out.grown gr3 (fun e=>by have:=hlb2 _ e;omega))
    have HX3:=Lib.hid (ext_grown HX2.out gr3 (fun x hx=>by have:=hlb2 x hx;omega))
    have HS3:=Lib.hid (Nat.le_trans HS2.out gr3.size)
    have OL3:=Lib.hid own3
    clear own3 gr3 hg3 hlb2 OM2 OL2 AP2 FR2 HX2 HS2 HLB D3 e2
    go_wp2_with fail
    go_roundg (N - (k+1))
    case measure=>omega
    case rel=>exact⟨k+1,_,v3,by omega,rfl,by go_num,rfl,rfl,by rw [HST1.out,if_pos HVB.out];exact OM3.out,by rw [HST2.out,if_pos HVB.out];exact OL3.out,AP3.out,FR3.out,HS3.out,HX3.out⟩
   |false =>
    have HVB:=Lib.hid hvb
    clear hvb d0 d3 e1
    go_wp2_with fail
    go_roundg (N - (k+1))
    case measure=>omega
    case rel=>exact⟨k+1,um,ul,by omega,rfl,by go_num,rfl,rfl,by rw [HST1.out,HVB.out,if_neg (by decide),List.append_nil];exact OM.out.ext X1.out,by rw [HST2.out,HVB.out,if_neg (by decide),List.append_nil];exact OL.out.ext X1.out,AP.out,FR.out.ext X1.out,Nat.le_trans HSZ.out X1.out.size,hx.trans X1.out⟩
  ·have hkN:k=N:=by omega
   have hd : ¬(k:Int)<(N:Int):=by omega
   obtain⟨mv,hmv⟩ : ∃x,x=memV ms t:=⟨_,rfl⟩
   obtain⟨ml,hml⟩ : ∃x,x=memL ms t:=⟨_,rfl⟩
   have hte:ms.take k=ms:=by rw [hkN,HN.out,List.take_length]
   rw [hte]at OM OL
   rw [←hmv]at OM
   rw [←hml]at OL
   have hmvl:mv.length≤4096:=by rw [hmv];unfold memV;rw [List.length_map];exact Nat.le_trans (List.length_filter_le _ _) (by have:=HN.out;omega)
   have hmll:ml.length≤1048576:=by rw [hml];have h1:=memL_len (l:=ms) (n:=256) HMF.out t;have:=HN.out;omega
   have HMV:=Lib.hid hmv
   have HML:=Lib.hid hml
   obtain⟨pm,cm,rfl,_⟩:=OM.out.shapeL
   have B5:([]:List Val).length+key.length≤maxLen:=by have:=HKL.out;simp [maxLen];omega
   have B6:(([]:List Val).length+key.length)*32≤140737488355328:=by have:=HKL.out;simp;omega
   clear hkN hte hmv hml
   go_wp2_with (at_builtin;go_loud (refine wpList_append_all Rep.val (fun _=>True) rfl _ _ 56 rfl (w.heap.size+1) 61 i3 _ 32 Tryz.underlying56 hi3 hz30 hz31 hz32 rfl (by decide) (.slice none 0 0) ([]:List Val) rfl (OwnOf.nil _ _ _ _ _) (.slice pk key.length ck) key rfl (HK.out.away (fun _ _ _ _ h=>h) hx (fun x e=>by cases e)) B5 B6 HSZ.out ?_))
   intro v4 w4 own4 gr4 hg4
   obtain⟨p4,c4,rfl,_⟩:=own4.shapeL
   have HU4:=Lib.hid (show ∀x,(Value.slice p4 key.length c4).ownBlock=some x→wr.heap.size≤x from fun x hx=>by
    rcases hg4 with h | h
    ·rw [h]at hx;cases hx
    ·rw [h]at hx;exact Nat.le_of_eq (Option.some.inj hx))
   have SM:=Lib.hid (show SliceOf (Rep.slice Rep.val) (on wr (fun x=>x<wr.heap.size)) (.slice pm mv.length cm) mv from OM.out.slice.ext (full_on wr _ fun _ h=>h))
   clear hg4
   have X4:Ext wr w4:=ext_grown (Ext.refl wr) gr4 (fun x e=>by cases e)
   have SL4:=Lib.hid ((OL.out.ext X4).slice)
   have SM4:=Lib.hid (SM.out.ext (X4.sub _))
   obtain⟨pl4,cl4,rfl,_⟩:=OL.out.shapeL
   have OV4:=Lib.hid own4
   have HX4:=Lib.hid (hx.trans X4)
   have FR4:=Lib.hid (FR.out.ext X4)
   have HS4:=Lib.hid (show w.heap.size+1≤wr.heap.size∧wr.heap.size≤w4.heap.size from ⟨HSZ.out,X4.size⟩)
   have HML5:=Lib.hid hmll
   clear own4 gr4 X4 OL OM AP FR HSZ hx hmll SM
   go_wp2_with fail
   refine(merge_lineage _ _ ml [] _ SL4.out (SliceOf.nil _ _) HML5.out (by simp)).mono ?_
   rintro e w5 ⟨v5,rfl,s5,x5⟩
   obtain⟨p5,c5,rfl,_⟩:=s5.form
   obtain⟨lg,hlg⟩ : ∃x,x=mergeL ml []:=⟨_,rfl⟩
   rw [←hlg]at s5 ⊢
   have HLG:=Lib.hid hlg
   have OV5:=Lib.hid (OV4.out.ext x5)
   have HUV5:=Lib.hid (show ∀x,(Value.slice p4 key.length c4).ownBlock=some x→wr.heap.size≤x∧x<w4.heap.size from fun x hx=>⟨HU4.out x hx,(OV4.out.lt x hx).2⟩)
   have SM5:=Lib.hid (SM4.out.ext (x5.sub _))
   have FR5:=Lib.hid (FR4.out.ext x5)
   have HX5:=Lib.hid (HX4.out.trans x5)
   have HW45:=Lib.hid (show w.heap.size+1≤w4.heap.size∧w4.heap.size≤w5.heap.size from ⟨by have:=HS4.out;omega,x5.size⟩)
   obtain⟨Q4,hQ4⟩ : ∃q,q=w4.heap.size:=⟨_,rfl⟩
   have S5:=Lib.hid (show SliceOf Rep.int (on w5 (fun x=>Q4≤x∧x<w5.heap.size)) (.slice p5 lg.length c5) lg from s5.ext (on_mono w5 fun x h1 h2=>⟨by rw [hQ4];exact h2,h1⟩))
   rw [←hQ4]at HUV5 HW45
   obtain⟨Q3,hQ3⟩ : ∃q,q=wr.heap.size:=⟨_,rfl⟩
   rw [←hQ3]at HUV5 SM5
   have HQ34:=Lib.hid (show Q3≤Q4 from by have:=HS4.out;omega)
   clear s5 x5 hlg hQ4 hQ3 OV4 FR4 HX4 HS4 SL4 SM4 HU4
   obtain⟨K,hK⟩ : ∃K,K=aggs.length:=⟨_,rfl⟩
   have HKK:=Lib.hid hK
   have hK1:K≤1000:=by rw [hK];exact HAL.out
   have HKL2:=Lib.hid HKL.out
   obtain⟨ng,hng⟩ : ∃n,n=mv.length:=⟨_,rfl⟩
   have HNG:=Lib.hid hng
   have hngl:ng≤4096:=by omega
   rw [←hng]at SM5
   rw [←hng]
   try rw [←hK]
   have g1':=HX5.out.at HG.out.2
   try rw [←hK]at g1'
   have e5:=cell_lt g1'
   clear hK hng hmvl
   go_wp2_with fail
   go_loopg [47] K (fun gk vi wr=> ∃(j:Nat) (pu:Option Addr) (nu cu:Nat),j≤K∧gk=K - j∧vi = .int .i64 j∧Hid (wr.cell? ⟨w5.heap.size,0,none⟩=some (.slice pu nu cu)∧wr.cell? ⟨w5.heap.size,1,none⟩=some (.slice p5 lg.length c5)∧wr.frozen? ⟨w5.heap.size,0,none⟩=false)∧Hid (OwnOf Rep.val wr (fun _=>True) (w.heap.size+1) 61 (.slice pu nu cu) (key++(aggs.take j).map (fun a=>F a mv)))∧Hid (∀x,(Value.slice pu nu cu).ownBlock=some x→(Q3≤x∧x<Q4)∨w5.heap.size<x)∧Hid (SliceOf (Rep.slice Rep.val) (on wr (fun x=>x<Q3)) (.slice pm ng cm) mv)∧Hid (SliceOf Rep.int (on wr (fun x=>Q4≤x∧x<w5.heap.size)) (.slice p5 lg.length c5) lg)∧Hid (FreeN wr w.heap.size 2)∧Hid (Ext w wr))
   case atStart =>
    refine⟨0,p4,key.length,c4,by omega,rfl,rfl,⟨by exact cells_new w5 [_,_] 58 0 _ rfl,by exact cells_new w5 [_,_] 58 1 _ rfl,by go_simp⟩,by show OwnOf Rep.val _ _ _ _ _ (key ++ []);rw [List.append_nil];exact OV5.out.ext ((Ext.refl w5).alloc _),fun x hx=> .inl (HUV5.out x hx),SM5.out.ext (((Ext.refl w5).alloc _).sub _),S5.out.ext (((Ext.refl w5).alloc _).sub _),FR5.out.ext ((Ext.refl w5).alloc _),HX5.out.alloc _⟩
   case round =>
    clear OV5 S5 FR5 HX5 HUV5 SM5
    obtain⟨j,pu,nu,cu,hj,rfl,rfl,HC,OU,HU,SM,SL,FR,HX⟩:=hrel
    by_cases hlt2:j<K
    ·have hjl:j<aggs.length:=by have:=HKK.out;omega
     have hdj:decide ((j:Int)<(K:Int))=true:=by simp;omega
     obtain⟨ba,oa,rfl⟩:=HPA.out (by decide) (by omega)
     obtain⟨b0,b1⟩:=agg_at HA.out j hjl
     replace b0:=HX.out.at b0
     replace b1:=HX.out.at b1
     have g0:=HX.out.at HG.out.1
     have g1:=HX.out.at HG.out.2
     obtain⟨hoy,hcl⟩:=HF.out _ (List.getElem_mem hjl)
     rw [←HMV.out]at hoy hcl
     have hstp:key++(aggs.take (j+1)).map (fun a=>F a mv)=(key++(aggs.take j).map (fun a=>F a mv)) ++ [F aggs[j] mv]:=by rw [List.take_succ_eq_append_getElem hjl,List.map_append,←List.append_assoc];rfl
     generalize F aggs[j] mv=y at hoy hcl hstp
     generalize aggs[j].arg=ar at b1 hcl
     generalize aggs[j].kind=ak at b0 hcl
     obtain⟨yk,yn,ys⟩:=y
     have HSTP:=Lib.hid hstp
     have HOKN:=Lib.hid hoy
     have HCL:=Lib.hid hcl
     clear hoy hcl hstp
     obtain⟨q0,q1,q2⟩:=HC.out
     obtain⟨xs,hxs⟩ : ∃x,x=key++(aggs.take j).map (fun a=>F a mv):=⟨_,rfl⟩
     rw [←hxs]at OU
     have hxl:xs.length≤2000:=by rw [hxs,List.length_append,List.length_map,List.length_take];have:=HKL2.out;omega
     have HXS:=Lib.hid hxs
     have B1:xs.length + [(⟨yk,yn,ys⟩:Val)].length≤maxLen:=by simp [maxLen];omega
     have B2:(xs.length + [(⟨yk,yn,ys⟩:Val)].length)*32≤140737488355328:=by simp;omega
     have e0:=cell_lt b0
     have e1:=cell_lt q0
     have e2:=cell_lt g0
     have HUL:=Lib.hid (show ∀x,(Value.slice pu nu cu).ownBlock=some x→x<wr.heap.size from fun x hx=>(OU.out.lt x hx).2)
     clear hxs hxl hjl
     go_wp2_with fail
     have k0:(wr.alloc (.cells #[.int .i64 ak,.int .i64 ar] 74)).cell? ⟨wr.heap.size,0,none⟩=some (.int .i64 ak):=by go_simp
     have k1:(wr.alloc (.cells #[.int .i64 ak,.int .i64 ar] 74)).cell? ⟨wr.heap.size,1,none⟩=some (.int .i64 ar):=by go_simp
     have x0:Ext wr (wr.alloc (.cells #[.int .i64 ak,.int .i64 ar] 74)):=(Ext.refl wr).alloc _
     generalize (wr.alloc (.cells #[.int .i64 ak,.int .i64 ar] 74))=W at k0 k1 x0 ⊢
     have HR4:=Lib.hid (show ∀k,(Value.slice pu nu cu).ownBlock=some k→w.heap.size≤k∧k≠w5.heap.size from fun k e=>by
      have h1:=HU.out k e
      have h3:=(OU.out.lt k e).1
      have h4:=HW45.out
      omega)
     have m0:=x0.at q0
     have m1:=x0.at g0
     have X0:=Lib.hid x0.drew
     have HAG:=Lib.hid (show ∀wx,Ext wr wx→Calls Tryz.prog 130 #[.slice pe ne ce,.agg #[.int .i64 ak,.int .i64 ar],.slice pm ng cm] wx fun e w'=>e = .returned (.agg #[.int .i64 yk,.int .i64 yn,.string ys])∧Ext wx w' from fun wx hwx=>HCL.out _ wx (HX.out.trans hwx) (SM.out.ext fun p u e=>hwx.at (on_some.1 e).2))
     have HQ:=Lib.hid (And.intro q0 q2)
     clear b0 b1 g1 q0 q2 g0 x0
     go_region_law (first
      |((with_reducible refine key_op 59 ?_);go_simp;refine(HAG.out _ (by first | with_reducible exact X0.out | exact X0.out)).mono ?_;rintro e w2 ⟨rfl,hx2⟩;have hy2:=Lib.hid (X0.out.trans hx2);have m2:=hy2.out.at HQ.out.1;have e9:=cell_lt m2)
      |((with_reducible refine key_op 61 ?_);(try simp only [Act.put,List.setIfInBounds_toArray,List.set_cons_zero,List.set_cons_succ]);refine step_append_all Rep.val (fun _=>True) rfl _ _ 56 rfl (w.heap.size+1) 61 i3 _ 32 Tryz.underlying56 hi3 hz30 hz31 hz32 rfl (by decide) (.slice pu nu cu) xs rfl (OU.out.ext (hy2.out.alloc _)) _ [⟨yk,yn,ys⟩] rfl (lit_new (R:=Rep.val) w2 [.int .i64 yk,.int .i64 yn,.string ys] 61 [[.int .i64 yk,.int .i64 yn,.string ys]] [⟨yk,yn,ys⟩] rfl (fun _=>⟨⟨rfl,HOKN.out⟩,trivial⟩) (by simp [maxLen]) (fun x hx=>Nat.lt_of_lt_of_le (HUL.out x hx) hy2.out.size)) B1 B2 (Nat.le_trans (by have:=(HX.out).size;have:=HW45.out;omega) (hy2.out.alloc _).size) ?_;intro v8 w8 own8 gr8 hg8;obtain⟨p8,n8,c8,rfl⟩ : ∃p n c,v8 = .slice p n c:=(by obtain⟨pz,cz,hz,_⟩:=own8.shapeL;exact⟨_,_,_,hz⟩);have m8:=cell_grown gr8 (((Ext.refl w2).alloc _).at m2) (fun k e=>(HR4.out k e).2);have f8:w8.frozen? ⟨w5.heap.size,0,none⟩=false:=(World.frozen?_of_block (w:=w2.alloc _) (gr8.block _ (cell_lt (((Ext.refl w2).alloc (.cells #[.int .i64 yk,.int .i64 yn,.string ys] 61)).at m2)) (fun e=>(HR4.out _ e.symm).2 rfl))).trans ((hy2.out.alloc _).unfrozen HQ.out.1 HQ.out.2)))
     all_goals
      have CH:Chg (fun k=>k=w5.heap.size∨(Value.slice pu nu cu).ownBlock=some k) wr (w8.setCell ⟨w5.heap.size,0,none⟩ (.slice p8 n8 c8)):=(((hy2.out.alloc (.cells #[.int .i64 yk,.int .i64 yn,.string ys] 61)).chg _).grown gr8 (fun k e=> .inl (.inr e))).setCell (.inl (.inl rfl)) _
      have HU8 : ∀x,(Value.slice p8 n8 c8).ownBlock=some x→(Q3≤x∧x<Q4)∨w5.heap.size<x:=fun x hx=>by
       rcases hg8 with h | h
       · exact HU.out x (h▸hx)
       · have h2:wr.heap.size≤x:=by
          have h1:=Option.some.inj (h.symm.trans hx)
          rw [←h1]
          exact(hy2.out.alloc _).size
         have h3:=cell_lt HQ.out.1
         omega
      have OU8:OwnOf Rep.val (w8.setCell ⟨w5.heap.size,0,none⟩ (.slice p8 n8 c8)) (fun _=>True) (w.heap.size+1) 61 (.slice p8 n8 c8) (key++(aggs.take (j+1)).map (fun a=>F a mv)):=by
       rw [HSTP.out,←HXS.out]
       exact own8.chg (fun _ _ _ _ h=>h) (chg_set w8 ⟨w5.heap.size,0,none⟩ _) (fun k h e=>by have:=HU8 k h;have:=HW45.out;simp only at e;omega)
      have Q8:(w8.setCell ⟨w5.heap.size,0,none⟩ (.slice p8 n8 c8)).cell? ⟨w5.heap.size,0,none⟩=some (.slice p8 n8 c8)∧(w8.setCell ⟨w5.heap.size,0,none⟩ (.slice p8 n8 c8)).cell? ⟨w5.heap.size,1,none⟩=some (.slice p5 lg.length c5)∧(w8.setCell ⟨w5.heap.size,0,none⟩ (.slice p8 n8 c8)).frozen? ⟨w5.heap.size,0,none⟩=false:=by
       have h1:=cell_grown gr8 ((hy2.out.alloc (.cells #[.int .i64 yk,.int .i64 yn,.string ys] 61)).at q1) (fun k e=>(HR4.out k e).2)
       exact⟨by go_simp,by rw [World.cell?_setCell_other _ _ _ _ (by simp)];exact h1,by go_simp⟩
      have hnC : ∀x,(Q4≤x∧x<w5.heap.size)→ ¬(x=w5.heap.size∨(Value.slice pu nu cu).ownBlock=some x):=fun x hx e=>by
       rcases e with e | e
       · omega
       · have:=HU.out x e;omega
      have hgC : ¬(w.heap.size=w5.heap.size∨(Value.slice pu nu cu).ownBlock=some w.heap.size):=fun e=>by
       rcases e with e | e
       · have:=HW45.out;omega
       · have:=(OU.out.lt _ e).1;omega
      have SL8:=Lib.hid (SL.out.chg CH hnC)
      have SM8:=Lib.hid (SM.out.chg CH (fun x hx e=>by
       rcases e with e | e
       · have:=HW45.out;have:=HQ34.out;omega
       · have:=HU.out x e;have:=HW45.out;have:=HQ34.out;omega))
      have FR8:=Lib.hid (FR.out.chg CH hgC)
      have HX8:=Lib.hid (show Ext w (w8.setCell ⟨w5.heap.size,0,none⟩ (.slice p8 n8 c8))from CH.below HX.out (fun k e=>by
       rcases e with e | e
       · have:=HW45.out;omega
       · exact Nat.le_of_succ_le (OU.out.lt k e).1))
      have HU9:=Lib.hid HU8
      have OU9:=Lib.hid OU8
      have Q9:=Lib.hid Q8
      clear CH HU8 OU8 Q8 hnC hgC own8 gr8 hg8 m8 f8 hy2 m2 q1
      go_wp2_with fail
      go_roundg (K - (j+1))
      case measure=>omega
      case rel=>exact⟨j+1,p8,n8,c8,by omega,rfl,by go_num,Q9.out,OU9.out,HU9.out,SM8.out,SL8.out,FR8.out,HX8.out⟩
    ·have hjK:j=K:=by omega
     have hdj:decide ((j:Int)<(K:Int))=false:=by simp;omega
     subst hjK
     obtain⟨q0,q1,q2⟩:=HC.out
     obtain⟨⟨z0,f0⟩,g0⟩:=FR.out 0 (by omega)
     obtain⟨⟨z1,f1⟩,g1⟩:=FR.out 1 (by omega)
     have e0:=cell_lt f0
     have e1:=cell_lt q0
     clear hlt2
     go_wp2_with fail
     have CH:Chg (fun k=>k=w.heap.size) wr ((wr.setCell ⟨w.heap.size,0,none⟩ (.slice pu nu cu)).setCell ⟨w.heap.size,1,none⟩ (.slice p5 lg.length c5)):=(chg_set wr ⟨w.heap.size,0,none⟩ _).setCell (p:=⟨w.heap.size,1,none⟩) (.inl rfl) _
     refine bodyPost_ret (v:= .tuple #[.agg #[.slice pu nu cu,.slice p5 lg.length c5],.bool (decide (0<ng))]) (by simp [results,Tryz.results83,go_sem,f0,f1]) rfl ⟨_,_,by rw [←HMV.out,←HNG.out],?_,?_,CH.below HX.out fun k e=>Nat.le_of_eq e.symm⟩
     ·have h1:=((OU.out.chg (fun _ _ _ _ h=>h) CH (fun k h e=>by have:=(OU.out.lt k h).1;omega)).fresh (fun _ _ _ _ h=>h)).ext (on_mono _ (T:=since w) fun k _ hk=>Nat.le_of_succ_le hk)
      show SliceOf Rep.val _ _ (key++aggs.map (fun a=>F a (memV ms t)))
      rw [←HMV.out]
      rw [HKK.out,List.take_length]at h1
      exact h1
     ·have h1:=(SL.out.chg CH (fun k hk e=>by have:=HW45.out;omega)).ext (on_mono _ (T:=since w) fun k _ hk=>Nat.le_trans (Nat.le_of_succ_le HW45.out.1) hk.1)
      show SliceOf Rep.int _ _ (mergeL (memL ms t) [])
      rw [←HML.out,←HLG.out]
      exact h1
end Go.Proofs.YtombmdaohcjokaaGreatDoor
namespace Go.Proofs.YtombmdaohcjokaaGreatDoor
open Go.RowKit
end Go.Proofs.YtombmdaohcjokaaGreatDoor
namespace Go.Proofs.YtombmdaohcjokaaGreatDoor
open Go.RowKit
end Go.Proofs.YtombmdaohcjokaaGreatDoor
namespace Go.Proofs.YtombmdaohcjokaaGreatDoor
open Go.RowKit
end Go.Proofs.YtombmdaohcjokaaGreatDoor
namespace Go.Proofs.YtombmdaohcjokaaGreatDoor
open Go.RowKit
end Go.Proofs.YtombmdaohcjokaaGreatDoor
namespace Go.Proofs.YtombmdaohcjokaaGreatDoor
open Go.RowKit
def r1:Row:=⟨[nV],[1]⟩
def r2:Row:=⟨[nV],[2]⟩
theorem ints_lit (w:World) (T:TypeId) (xs:List Int) (hr:inR xs) (hl:xs.length≤maxLen) :
  SliceOf Rep.int (w.alloc (.cells (xs.map (Value.int .i64)).toArray T)).cell? (.slice (some ⟨w.heap.size,0,none⟩) xs.length xs.length) xs :=
 slice_lit Rep.int w _ T _ xs (flat_ints xs) (ints_repAll _ _ hr) hl
end Go.Proofs.YtombmdaohcjokaaGreatDoor
namespace Go.Proofs.YtombmdaohcjokaaGreatDoor
open Go.RowKit Go.Maps
theorem cnt_fit (l:List Tup) : ∀vss:List (List Val),(∀vs∈vss,∃u∈l,vs=u.vals)→(cntV 1 vss).length≤1000∧ ∀x∈cntV 1 vss,x.s.size≤1048576:=fun vss _=>by
 unfold cntV
 refine⟨by simp,fun x hx=> ?_⟩
 rw [List.eq_of_mem_replicate hx]
 simp [intVal]
theorem genTups_fit2 (x:List Num5) (m:Nat) : ∀t∈genTups x m,fitVals t.vals∧t.lin.length≤256:=fun t ht=>by
 obtain⟨y,_,rfl⟩:=List.mem_map.1 ht
 refine⟨⟨by simp [genTup,genVals],fun v hv=> ?_⟩,by simp [genTup]⟩
 have hv:v∈ [genV0 y.c,genV1 y.d]:=hv
 have h : ∀z,(genStr z).size≤2:=fun z=>by unfold genStr;split;exact Nat.zero_le _;split <;> decide
 simp only [List.mem_cons,List.not_mem_nil,or_false]at hv
 rcases hv with rfl | rfl
 ·unfold genV0;split
  ·exact Nat.zero_le _
  ·exact Nat.zero_le _
 ·unfold genV1;split
  ·exact Nat.zero_le _
  ·exact Nat.le_trans (h _) (by decide)
def exC:List ExprI:= [⟨2,0,0,0,nV⟩,⟨2,0,0,1,nV⟩]
def keysL (k:Int):List Int:=if k % 4=0 then []else if k % 4=1 then [0]else if k % 4=2 then [1]else [0,1]
theorem keysL_len (k:Int):(keysL k).length≤2:=by
 unfold keysL
 repeat' split
 all_goals simp
set_option maxRecDepth 100000 in
set_option maxHeartbeats 4000000 in
theorem exprs_any (w:World):Calls Tryz.prog 38 #[] w fun e w'=> ∃v,e = .returned v∧SliceOf Rep.expr w'.cell? v exC∧Ext w w':=by
 go_enter Tryz.func38,Tryz.ntmps38
 go_wp2_with fail
 go_ret
 refine⟨_,rfl,?_,(Ext.refl w).alloc _⟩
 exact slice_lit Rep.expr w (exprEnc ⟨2,0,0,0,nV⟩++exprEnc ⟨2,0,0,1,nV⟩) 66 [exprEnc ⟨2,0,0,0,nV⟩,exprEnc ⟨2,0,0,1,nV⟩] exC rfl ⟨⟨rfl,by unfold okI;dsimp only;omega,ok_nV⟩,⟨rfl,by unfold okI;dsimp only;omega,ok_nV⟩,trivial⟩ (by simp [exC,maxLen])
set_option maxRecDepth 100000 in
set_option maxHeartbeats 4000000 in
theorem keysOf_any (k:Int) (w:World) (h0:0≤k) (h1:k≤255):Calls Tryz.prog 39 #[.int .u8 k] w fun e w'=> ∃v,e = .returned v∧SliceOf Rep.int w'.cell? v (keysL k)∧Ext w w':=by
 have hk:k % 4=0∨k % 4=1∨k % 4=2∨k % 4=3:=by omega
 rcases hk with h | h | h | h
 ·have HK:=Lib.hid (show keysL k = []from if_pos h)
  go_enter Tryz.func39,Tryz.ntmps39
  go_wp2_with fail
  go_ret
  exact⟨_,rfl,by rw [HK.out];exact SliceOf.nil _ _,((((Ext.refl w).alloc _).alloc _).alloc _).alloc _⟩
 ·have HK:=Lib.hid (show keysL k = [0]from by unfold keysL;rw [if_neg (by omega),if_pos h])
  go_enter Tryz.func39,Tryz.ntmps39
  go_wp2_with fail
  go_ret
  exact⟨_,rfl,by rw [HK.out];exact(ints_lit w 3 [0] (by unfold inR;simp) (by simp [maxLen])).ext ((((Ext.refl _).alloc _).alloc _).alloc _).full,((((Ext.refl w).alloc _).alloc _).alloc _).alloc _⟩
 ·have HK:=Lib.hid (show keysL k = [1]from by unfold keysL;rw [if_neg (by omega),if_neg (by omega),if_pos h])
  go_enter Tryz.func39,Tryz.ntmps39
  go_wp2_with fail
  go_ret
  have hl:=ints_lit (w.alloc (.cells #[.int .i64 0] 3)) 3 [1] (by unfold inR;simp) (by simp [maxLen])
  rw [show (w.alloc (.cells #[.int .i64 0] 3)).heap.size=w.heap.size+1 by simp]at hl
  exact⟨_,rfl,by rw [HK.out];exact hl.ext (((Ext.refl _).alloc _).alloc _).full,((((Ext.refl w).alloc _).alloc _).alloc _).alloc _⟩
 ·have HK:=Lib.hid (show keysL k = [0,1]from by unfold keysL;rw [if_neg (by omega),if_neg (by omega),if_neg (by omega)])
  go_enter Tryz.func39,Tryz.ntmps39
  go_wp2_with fail
  go_ret
  have hl:=ints_lit ((w.alloc (.cells #[.int .i64 0] 3)).alloc (.cells #[.int .i64 1] 3)) 3 [0,1] (by unfold inR;simp) (by simp [maxLen])
  rw [show ((w.alloc (.cells #[.int .i64 0] 3)).alloc (.cells #[.int .i64 1] 3)).heap.size=w.heap.size+2 by simp]at hl
  exact⟨_,rfl,by rw [HK.out];exact hl.ext ((Ext.refl _).alloc _).full,((((Ext.refl w).alloc _).alloc _).alloc _).alloc _⟩
end Go.Proofs.YtombmdaohcjokaaGreatDoor
namespace Go.Proofs.YtombmdaohcjokaaGreatDoor
open Go.RowKit Go.Maps
theorem rowLaw_count {w:World} {ve va:Value} {l:List Tup} {K:Nat} (hve:ShSl ve) (ha:SliceOf Rep.agg w.cell? va [⟨1,0⟩]) (hK:K≤1000) (hl:l.length≤400) (hf : ∀t∈l,fitVals t.vals∧t.lin.length≤256):RowLaw w ve va l K (cntV 1):=by
 intro G kv key tv ms t w1 hx h0 h1 hk hkl hm hml hmm
 exact row_count G ve va [⟨1,0⟩] kv key tv ms t w1 h0 hve h1 (ha.ext hx.full) (by simp) (by simp) hk (by omega) hm (by omega) (fun m hm'=>by obtain⟨u,hu,_,e⟩:=hmm m hm';rw [e];exact(hf u hu).2)
end Go.Proofs.YtombmdaohcjokaaGreatDoor
namespace Go.Proofs.YtombmdaohcjokaaGreatDoor
open Go.RowKit Go.Maps
def aggsL (c:Int):List AggI:= [⟨1,0⟩,⟨2,0⟩,⟨3,c⟩,⟨4,c⟩]
def aggF (a:AggI) (vss:List (List Val)):Val:=aggVal a.kind a.arg vss
def allV (c:Int) (vss:List (List Val)):List Val:=(aggsL c).map fun a=>aggF a vss
theorem ok_sumV (xs:List Val):okVal (sumV xs):=by
 unfold sumV
 split
 ·rename_i h
  exact⟨by simp [intVal],by simp only [intVal];omega,by simp [intVal,maxLen]⟩
 ·exact ok_nV
theorem tups_ok {h:View} {v:Value} {l:List Tup} (k:SliceOf Rep.tup h v l) : ∀t∈l,∀x∈t.vals,okVal x:=by
 intro t ht
 obtain⟨i,hi,rfl⟩:=List.getElem_of_mem ht
 obtain⟨p,cap,rfl,_,_,hp⟩:=k.form
 obtain⟨b,o,rfl⟩:=hp (by decide) (by omega)
 obtain⟨_,_,_,_,_,_,g,_⟩:=tup_at k i hi
 exact vals_ok g
set_option maxRecDepth 100000 in
set_option maxHeartbeats 4000000 in
theorem allAggs_any (k:Int) (w:World) (h0:0≤k) (h1:k≤255):Calls Tryz.prog 40 #[.int .u8 k] w fun e w'=> ∃v,e = .returned v∧SliceOf Rep.agg w'.cell? v (aggsL (k % 2))∧Ext w w':=by
 obtain⟨c,hc⟩ : ∃c,k % 2=c:=⟨_,rfl⟩
 have hc2:c=0∨c=1:=by omega
 rw [hc]
 go_enter Tryz.func40,Tryz.ntmps40
 go_wp2_with fail
 go_ret
 refine⟨_,rfl,?_,(Ext.refl w).alloc _⟩
 exact slice_lit Rep.agg w [.int .i64 1,.int .i64 0,.int .i64 2,.int .i64 0,.int .i64 3,.int .i64 c,.int .i64 4,.int .i64 c] 74 [[.int .i64 1,.int .i64 0],[.int .i64 2,.int .i64 0],[.int .i64 3,.int .i64 c],[.int .i64 4,.int .i64 c]] (aggsL c) rfl ⟨⟨rfl,by unfold okI;dsimp only;omega,by unfold okI;dsimp only;omega⟩,⟨rfl,by unfold okI;dsimp only;omega,by unfold okI;dsimp only;omega⟩,⟨rfl,by unfold okI;dsimp only;omega,by unfold okI;dsimp only;omega⟩,⟨rfl,by unfold okI;dsimp only;omega,by unfold okI;dsimp only;omega⟩,trivial⟩ (by simp [aggsL,maxLen])
end Go.Proofs.YtombmdaohcjokaaGreatDoor
namespace Go.Proofs.YtombmdaohcjokaaGreatDoor
open Go.RowKit Go.Deep
theorem ok_aggR (kind:Int) {xs:List Val} (h : ∀v∈xs,okVal v) (hl:xs.length≤1048576):okVal (aggR kind xs):=by
 have hn : ∀v∈nnV xs,okVal v:=fun v hv=>h v (List.mem_filter.1 hv).1
 unfold aggR bestMin bestMax
 split
 ·exact ok_intVal (by unfold fit64;omega)
 split
 ·exact ok_sumV xs
 split
 ·split
  ·exact ok_nV
  ·rename_i hne;exact hn _ (pickMin_mem hne)
 split
 ·split
  ·exact ok_nV
  ·rename_i hne;exact hn _ (pickMax_mem hne)
 exact ok_nV
end Go.Proofs.YtombmdaohcjokaaGreatDoor
