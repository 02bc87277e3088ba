/- joined texts of a proof: RefB2, MapS, PerK, BndW, AliW -/
import Derived.Test.YtkddkbpoefidpaaGreatDoorKI13
import Derived.Test.YtkddkbpoefidpaaGreatDoorKI21
import Derived.Test.YtkddkbpoefidpaaGreatDoorKI24
import Derived.Test.YtkddkbpoefidpaaGreatDoorKI06
import Derived.WideKeyEntry
import Derived.DeepKeys4
import Derived.Test.YtkddkbpoefidpaaGreatDoorKI18
import Derived.Test.YtkddkbpoefidpaaGreatDoorKI07
import Derived.Test.YtkddkbpoefidpaaGreatDoorKI05
import Derived.Test.YtkddkbpoefidpaaGreatDoorKI08
import Derived.Test.YtkddkbpoefidpaaGreatDoorKI22
import Derived.Test.YtkddkbpoefidpaaGreatDoorKI11
namespace Go.Proofs.YtkddkbpoefidpaaGreatDoor
open Go.RowKit
theorem binUpto_bnd (G:Int→List Row) (P:List Int) (k:Nat) (hk:k≤P.length - 1) : ∀x∈bnd (binUpto G P k),x∈P:=by
 induction k with
 |zero=>intro x hx;cases hx
 |succ k ih =>
  intro x hx
  rw [binUpto,bnd_append]at hx
  rcases List.mem_append.1 hx with hx | hx
  ·exact ih (by omega) x hx
  ·unfold bnd at hx
   obtain⟨t,ht,h2⟩:=List.mem_flatMap.1 hx
   obtain⟨r,_,rfl⟩:=List.mem_map.1 ht
   split at h2
   ·simp only [List.mem_cons,List.not_mem_nil,or_false]at h2
    rcases h2 with rfl | rfl
    ·show P[k]! ∈P
     rw [getElem!_pos P k (by omega)];exact List.getElem_mem _
    ·show P[k+1]! ∈P
     rw [getElem!_pos P (k+1) (by omega)];exact List.getElem_mem _
   ·cases h2
theorem binUpto_len (G:Int→List Row) (P:List Int) (c:Nat) (hG : ∀x,(G x).length≤c) (k:Nat):(binUpto G P k).length≤k*c:=by
 induction k with
 |zero=>exact Nat.zero_le _
 |succ k ih =>
  rw [binUpto,List.length_append,List.length_map,Nat.succ_mul]
  have:=hG P[k]!
  omega
theorem slice_le (l:List Tup) (x:Int):(sortBy cmpRow (sliceRows l x)).length≤l.length:=by
 rw [sortBy_length];unfold sliceRows;rw [List.length_map];exact List.length_filter_le _ _
theorem slice_fitJ {l:List Tup} (h:fewT l) (x:Int):fitJ (sortBy cmpRow (sliceRows l x)):=fun r hr=>by
 have hr:=(sortBy_perm _ _).mem_iff.1 hr
 unfold sliceRows at hr
 obtain⟨t,ht,rfl⟩:=List.mem_map.1 hr
 have:=h t (List.mem_filter.1 ht).1
 exact⟨this.1,this.2.2⟩
noncomputable def binG (tr:List Val→Bool) (W:Int) (a b:List Tup) (x:Int):List Row:=refJ tr W (sortBy cmpRow (sliceRows a x)) (sortBy cmpRow (sliceRows b x))
theorem binG_len (tr:List Val→Bool) (W:Int) (a b:List Tup) (ha:a.length≤8) (hb:b.length≤8) (x:Int):(binG tr W a b x).length≤72:=by
 have h1:=refJ_len tr W (sortBy cmpRow (sliceRows a x)) (sortBy cmpRow (sliceRows b x))
 have h2:=slice_le a x
 have h3:=slice_le b x
 have h4:(sortBy cmpRow (sliceRows a x)).length*((sortBy cmpRow (sliceRows b x)).length+1)≤8*9:=Nat.mul_le_mul (by omega) (by omega)
 unfold binG
 omega
theorem whole_is {tr:List Val→Bool} {W most:Int} {a b:List Tup} {x:Int} {l:List Row} (hm:most=((a.length*b.length+a.length+1:Nat):Int)) (h:WholeOr most (refJ tr W (sortBy cmpRow (sliceRows a x)) (sortBy cmpRow (sliceRows b x))) l):l=binG tr W a b x:=by
 refine h.1 ?_
 have h1:=refJ_len tr W (sortBy cmpRow (sliceRows a x)) (sortBy cmpRow (sliceRows b x))
 have h2:(sortBy cmpRow (sliceRows a x)).length*((sortBy cmpRow (sliceRows b x)).length+1)≤a.length*(b.length+1):=Nat.mul_le_mul (slice_le a x) (by have:=slice_le b x;omega)
 have h3:a.length*(b.length+1)=a.length*b.length+a.length:=Nat.mul_succ _ _
 have h4:(refJ tr W (sortBy cmpRow (sliceRows a x)) (sortBy cmpRow (sliceRows b x))).length≤a.length*b.length+a.length+1:=by omega
 rw [hm]
 exact Int.ofNat_le.2 h4
theorem keepP2 {W wa wb:World} {b1 b2 o1 o2:Nat} {v1 v2:Value} {row:Option Nat}
  (h:Ext W wa∧wa.cell? ⟨b1,o1,none⟩=some v1∧wa.cell? ⟨b2,o2,none⟩=some v2) (gr:wa.grownBy wb row) (hr : ∀k,row=some k→W.heap.size≤k) (hb : ∀k,row=some k→k≠b1∧k≠b2) :
  Ext W wb∧wb.cell? ⟨b1,o1,none⟩=some v1∧wb.cell? ⟨b2,o2,none⟩=some v2 :=
 ⟨ext_grown h.1 gr hr,cell_grown gr h.2.1 fun k hk=>(hb k hk).1,cell_grown gr h.2.2 fun k hk=>(hb k hk).2⟩
set_option maxRecDepth 100000 in
set_option maxHeartbeats 8000000 in
theorem refBinary_any (op width Wj:Int) (hop:(op=4∧Wj = -1)∨(op=5∧Wj=min (max width 0) 64)) (va vb:Value) (a b:List Tup) (ve:Value) (es:List ExprI) (pred:Int) (w:World) (ha:SliceOf Rep.tup w.cell? va a) (hb:SliceOf Rep.tup w.cell? vb b) (hla:a.length≤8) (hlb:b.length≤8)
  (he:SliceOf Rep.expr w.cell? ve es) (hel:es.length≤1000) (hfa:fewT a) (hfb:fewT b) :
  Calls Tryz.prog 22 #[.int .i64 op,va,vb,ve,.int .i64 pred,.int .i64 width] w fun e w'=> ∃v',e = .returned v'∧SliceOf Rep.tup w'.cell? v' (normT (refBin (refJ (trE es pred) Wj) a b))∧Ext w w':=by
 obtain⟨i1,hi1,hz10,hz11,hz12⟩:=info_parts info_tupR
 obtain⟨tr,htr⟩ : ∃tr,tr=trE es pred:=⟨_,rfl⟩
 rw [←htr]
 have HTR:=Lib.hid htr
 have HA:=Lib.hid ha
 have HB:=Lib.hid hb
 have HE:=Lib.hid he
 have HEL:=Lib.hid hel
 have HFA:=Lib.hid hfa
 have HFB:=Lib.hid hfb
 have HLL:=Lib.hid (And.intro hla hlb)
 obtain⟨pa,ca,rfl,_⟩:=ha.form
 obtain⟨pb,cb,rfl,_⟩:=hb.form
 obtain⟨pe,ce,rfl,_⟩:=he.form
 have B1:([]:List Tup).length+a.length≤maxLen:=by rw [List.length_nil];unfold maxLen;omega
 have B2:(([]:List Tup).length+a.length)*64≤140737488355328:=by rw [List.length_nil];omega
 have B3:a.length+b.length≤maxLen:=by unfold maxLen;omega
 have B4:(a.length+b.length)*64≤140737488355328:=by omega
 have HBB:=Lib.hid (And.intro (And.intro B1 B2) (And.intro B3 B4))
 obtain⟨na,hna⟩ : ∃n,n=a.length:=⟨_,rfl⟩
 obtain⟨nb,hnb⟩ : ∃n,n=b.length:=⟨_,rfl⟩
 obtain⟨ne,hne⟩ : ∃n,n=es.length:=⟨_,rfl⟩
 rw [←hna]at HA hla ⊢
 rw [←hnb]at HB hlb ⊢
 rw [←hne]at HE ⊢
 have HNA:=Lib.hid hna
 have HNB:=Lib.hid hnb
 have hnab:na*nb≤64:=Nat.le_trans (Nat.mul_le_mul hla hlb) (by decide)
 obtain⟨nab,hnabe⟩ : ∃z,z=na*nb:=⟨_,rfl⟩
 have enab:(na:Int)*(nb:Int)=(nab:Int):=by rw [hnabe];push_cast;rfl
 rw [←hnabe]at hnab
 have HMOST:=Lib.hid (show ((nab:Int)+(na:Int)+1)=((a.length*b.length+a.length+1:Nat):Int)from by rw [hnabe,hna,hnb];push_cast;rfl)
 clear ha hb he hel hfa hfb htr hna hnb hne B1 B2 B3 B4 hnabe
 rcases hop with ⟨rfl,rfl⟩ | ⟨rfl,hWj⟩
 ·go_enter Tryz.func22,Tryz.ntmps22
  go_wp2_with (at_builtin;go_loud (refine wpList_append_all Rep.tup (fun _=>True) rfl _ _ 22 rfl w.heap.size 96 i1 _ 64 Tryz.underlying22 hi1 hz10 hz11 hz12 rfl (by decide) (.slice none 0 0) [] rfl (OwnOf.nil _ _ _ _ _) (.slice pa na ca) a rfl (HA.out.ext (all_nil _)) HBB.out.1.1 HBB.out.1.2 (Nat.le_refl _) ?_))
  intro v3 w3 own3 gr3 _
  have X3:=Lib.hid (ext_grown (Ext.refl w) gr3 (own_nil _))
  have O3:=Lib.hid own3
  clear own3 gr3
  go_wp2_with (at_builtin;go_loud (refine wpList_append_all Rep.tup (fun _=>True) rfl _ _ 22 rfl w.heap.size 96 i1 _ 64 Tryz.underlying22 hi1 hz10 hz11 hz12 rfl (by decide) v3 a rfl O3.out (.slice pb nb cb) b rfl (HB.out.ext (old_all X3.out O3.out.base)) HBB.out.2.1 HBB.out.2.2 X3.out.size ?_))
  intro v4 w4 own4 gr4 _
  have X4:=Lib.hid (ext_grown X3.out gr4 O3.out.base)
  have O4:=Lib.hid own4
  clear own4 gr4 O3 X3
  go_wp2_with fail
  refine(ref_bounds _ (a++b) _ O4.out.slice (by rw [List.length_append];have:=HLL.out;omega)).mono ?_
  rintro e w1 ⟨u1,rfl,t1,x1⟩
  have X1:=Lib.hid (X4.out.trans x1)
  obtain⟨P,hP⟩ : ∃P,P=pts (a++b):=⟨_,rfl⟩
  have hpl:P.length≤32:=by rw [hP];have h:=pts_len (a++b);rw [List.length_append]at h;have:=HLL.out;omega
  rw [←hP]at t1
  obtain⟨bp,cp,rfl,_,_,hpp⟩:=t1.form
  have T1:=Lib.hid t1
  have HPF:=Lib.hid hpp
  have HOKP:=Lib.hid (show ∀x∈P,okI x from fun x hx=>t1.ints x hx)
  have HPV:=Lib.hid (show ∀i,i+1<P.length→validB P[i]! P[i+1]! = true from fun i hi=>by
   obtain⟨p1,p2,_⟩:=pts_law (a++b)
   rw [←hP]at p1 p2
   exact pts_valid p1 (fun x hx=>bnd_rng _ x ((p2 x).1 hx)) hi)
  have T1B:=Lib.hid (show ∀q oo,bp=some ⟨q,oo,none⟩→0<P.length→q<w1.heap.size from fun q oo hq h0=>by
   subst hq
   exact cell_lt (int_at t1 0 h0).1)
  have HREF:=Lib.hid (show refBin (refJ tr (-1)) a b=binUpto (binG tr (-1) a b) P (P.length - 1)from by rw [hP];rfl)
  obtain⟨M,hM⟩ : ∃M,M=P.length:=⟨_,rfl⟩
  rw [←hM]at T1 HPF hpl ⊢
  have HM:=Lib.hid hM
  have AT:=Lib.hid ((HA.out.ext X1.out.full).ext (full_on w1 (fun k=>k<w1.heap.size) fun k hk=>hk))
  have BT:=Lib.hid ((HB.out.ext X1.out.full).ext (full_on w1 (fun k=>k<w1.heap.size) fun k hk=>hk))
  have ET:=Lib.hid (HE.out.ext X1.out.full)
  have hmw1:IntKind.i64.wrap (nab:Int)=(nab:Int):=by rw [IntKind.wrap_i64];omega
  have hmw2:IntKind.i64.wrap ((nab:Int)+(na:Int))=(nab:Int)+(na:Int):=by rw [IntKind.wrap_i64];omega
  have hmw3:IntKind.i64.wrap ((nab:Int)+(na:Int)+1)=(nab:Int)+(na:Int)+1:=by rw [IntKind.wrap_i64];omega
  clear t1 x1 hP hpp hM O4 X4 HA HB HE
  go_wp2_with fail
  go_loopg [15,16] M (fun gk vo vi wr=> ∃(k:Nat) (u:Value),k≤M∧(0<k→k<M)∧gk=M - k∧vi = .int .i64 k∧u=vo∧Hid (OwnOf Rep.tup wr (fun _=>True) w1.heap.size 96 u (binUpto (binG tr (-1) a b) P k))∧Hid (Ext w1 wr))
  case atStart=>exact⟨0,_,by omega,by omega,rfl,rfl,rfl,OwnOf.nil _ _ _ _ _,Ext.refl w1⟩
  case round =>
   obtain⟨k,u,hk,hk2,rfl,rfl,rfl,OT,X2⟩:=hrel
   have hw0:IntKind.i64.wrap ((k:Int)+1)=(k:Int)+1:=by rw [IntKind.wrap_i64];omega
   by_cases hlt:k+1<M
   ·have hd:decide ((k:Int)+1<(M:Int))=true:=by simp;omega
    obtain⟨wo,rfl⟩ : ∃z,z=wr:=⟨wr,rfl⟩
    have hkl:k<P.length:=by have:=HM.out;omega
    have hkl2:k+1<P.length:=by have:=HM.out;omega
    obtain⟨bq,op_,rfl⟩:=HPF.out (by decide) (by omega)
    have hpv:=T1.out
    rw [HM.out]at hpv
    obtain⟨cp0,_⟩:=int_at hpv k hkl
    obtain⟨cp1,_⟩:=int_at hpv (k+1) hkl2
    have hbk:binUpto (binG tr (-1) a b) P (k+1)=binUpto (binG tr (-1) a b) P k++(binG tr (-1) a b P[k]!).map fun r=>tupOf r ⟨P[k]!,P[k+1]!⟩:=rfl
    have hval:=HPV.out k hkl2
    rw [getElem!_pos P k hkl,getElem!_pos P (k+1) hkl2]at hbk hval
    have hok:=And.intro (HOKP.out P[k] (List.getElem_mem hkl)) (HOKP.out P[k+1] (List.getElem_mem hkl2))
    have hol:(binUpto (binG tr (-1) a b) P k).length≤2400:=Nat.le_trans (binUpto_len _ P 72 (binG_len tr (-1) a b HLL.out.1 HLL.out.2) k) (by omega)
    obtain⟨OL,hOL⟩ : ∃z,z=binUpto (binG tr (-1) a b) P k:=⟨_,rfl⟩
    rw [←hOL]at OT hbk hol
    replace cp0:=X2.out.at cp0
    replace cp1:=X2.out.at cp1
    generalize P[k]=px at cp0 hbk hval hok
    generalize P[k+1]=py at cp1 hbk hval hok
    have HBK:=Lib.hid hbk
    have HVAL:=Lib.hid hval
    have HOK:=Lib.hid hok
    have HOL:=Lib.hid hol
    have HBQ:=Lib.hid (Nat.lt_of_lt_of_le (T1B.out bq op_ rfl (by omega)) (Nat.le_refl w1.heap.size))
    have CPX:=Lib.hid (And.intro cp0 cp1)
    have hkM:(k:Int)<(M:Int):=by omega
    have hkM2:k<M:=by omega
    have hi3:(0:Int)≤(k:Int)+1:=by omega
    have hi4:(k:Int)+1<(M:Int):=by omega
    obtain⟨T,hT⟩ : ∃T:Nat→Prop,T=fun q=>q<w1.heap.size∨wo.heap.size≤q:=⟨_,rfl⟩
    have HTN:=Lib.hid (show ∀wz,Ext wo wz→ ∀q,wz.heap.size≤q→T q from fun wz hz q hq=>by rw [hT];exact .inr (Nat.le_trans hz.size hq))
    have HTO:=Lib.hid (show ∀wz,Ext wo wz→Sub (on w1 fun q=>q<w1.heap.size) (on wz T)from fun wz hz=>((X2.out.trans hz).sub _).trans (on_mono _ fun q _ hq=>by rw [hT];exact .inl hq))
    have HTA:=Lib.hid (show ∀(wz:World) b,Value.ownBlock u=some b→ ¬T b from fun wz b hb ht=>by
     have h1:=OT.out.lt b hb
     rw [hT]at ht
     rcases ht with h | h <;> omega)
    have hS0:Ext wo wo.drew∧wo.drew.cell? ⟨bq,op_+k,none⟩=some (.int .i64 px)∧wo.drew.cell? ⟨bq,op_+(k+1),none⟩=some (.int .i64 py):=⟨(Ext.refl wo).drew,cp0,cp1⟩
    have e0:=cell_lt cp0
    clear hpv hbk hval hok hol hOL hT cp0 cp1
    go_wp2_with fail
    go_region_held3 (fun w'=>Ext wo w'∧w'.cell? ⟨bq,op_+k,none⟩=some (.int .i64 px)∧w'.cell? ⟨bq,op_+(k+1),none⟩=some (.int .i64 py))
     (first |with_reducible assumption | with_reducible exact keepE2 (by assumption) x6 | with_reducible exact keepE2 (by assumption) x5)
     (first
      |(go_at_call 62;(with_reducible have q5:=OX.out);refine(ref_timesliceT T _ b px _ (by exact HTN.out _ (And.left ‹Ext wo _∧_›)) (by exact BT.out.ext (HTO.out _ (And.left ‹Ext wo _∧_›))) (by have:=HLL.out;omega)).mono ?_;rintro e w6 ⟨v6,rfl,s6,x6⟩;have OY:=Lib.hid s6;have OX2:=Lib.hid (OX.out.ext (x6.sub _));clear s6 q5)
      |(go_at_call 62;refine(ref_timesliceT T _ a px _ (by exact HTN.out _ (And.left ‹Ext wo _∧_›)) (by exact AT.out.ext (HTO.out _ (And.left ‹Ext wo _∧_›))) (by have:=HLL.out;omega)).mono ?_;rintro e w5 ⟨v5,rfl,s5,x5⟩;have OX:=Lib.hid s5;clear s5)
      |fail)
    all_goals
     have K6:= ‹Ext wo _∧_›
     have X6:=Lib.hid K6.1
     have CP6:=Lib.hid K6.2
     clear hS0 K6
     go_wp2_with fail
     refine(refJoin_any T _ _ _ _ _ es pred (-1) ((nab:Int)+(na:Int)+1) _ (HTN.out _ X6.out) OX2.out OY.out (by have h:=slice_le a px;have:=HLL.out;omega) (by have h:=slice_le b px;have:=HLL.out;omega) (slice_fitJ HFA.out px) (slice_fitJ HFB.out px) (ET.out.ext (X2.out.trans X6.out).full) HEL.out (by decide)).mono ?_
     rintro e w7 ⟨v7,l7,rfl,s7,hw7,x7⟩
     rw [←HTR.out]at hw7
     have hl7:=whole_is HMOST.out hw7
     rw [hl7]at s7
     have hgl:=binG_len tr (-1) a b HLL.out.1 HLL.out.2 px
     obtain⟨GL,hGL⟩ : ∃z,z=binG tr (-1) a b px:=⟨_,rfl⟩
     rw [←hGL]at s7 hgl HBK
     have S7:=Lib.hid s7
     have X7:=Lib.hid (X6.out.trans x7)
     have cp0:=x7.at CP6.out.1
     have cp1:=x7.at CP6.out.2
     have HGL:=Lib.hid hgl
     have hS0:Ext wo w7.drew∧w7.drew.cell? ⟨bq,op_+k,none⟩=some (.int .i64 px)∧w7.drew.cell? ⟨bq,op_+(k+1),none⟩=some (.int .i64 py):=⟨X7.out.drew,cp0,cp1⟩
     have C1:OL.length+(GL.map fun r=>tupOf r ⟨px,py⟩).length≤maxLen:=by rw [List.length_map];have:=HOL.out;unfold maxLen;omega
     have C2:(OL.length+(GL.map fun r=>tupOf r ⟨px,py⟩).length)*64≤140737488355328:=by rw [List.length_map];have:=HOL.out;omega
     have HC:=Lib.hid (And.intro C1 C2)
     clear s7 hw7 hl7 hGL hgl x7 cp0 cp1 C1 C2 OX2 OY
     go_wp2_with fail
     go_region_held3 (fun w'=>Ext w1 w'∧w'.cell? ⟨bq,op_+k,none⟩=some (.int .i64 px)∧w'.cell? ⟨bq,op_+(k+1),none⟩=some (.int .i64 py))
      (first |exact⟨X2.out.trans hS0.1,hS0.2.1,hS0.2.2⟩ | with_reducible assumption | with_reducible exact keepE2 (by assumption) x8)
      (first
       |((with_reducible have q8:=O8.out);refine step_append_all Rep.tup (fun _=>True) rfl _ _ 22 rfl w1.heap.size 96 i1 _ 64 Tryz.underlying22 hi1 hz10 hz11 hz12 rfl (by decide) u OL rfl (OT.out.ext X8.out) v8 (GL.map fun r=>tupOf r ⟨px,py⟩) rfl (O8.out.ext (on_mono _ fun q _ hq=>⟨fun e=>HTA.out w8 q e.symm hq,trivial⟩)) HC.out.1 HC.out.2 (X2.out.trans X8.out).size ?_;intro v9 w9 own9 gr9 _;have K9:=keepP2 K8 gr9 (fun q hq=>(OT.out.lt q hq).1) (fun q hq=>by have h1:=(OT.out.lt q hq).1;have h2:=HBQ.out;exact⟨by omega,by omega⟩);have O9:=Lib.hid own9;clear own9 q8)
       |(go_at_call 63;refine(refFromRows_any T _ GL px py _ (by exact HTN.out _ hS0.1) (by exact S7.out.ext ((Ext.refl _).drew.sub _)) (by have:=HGL.out;omega) HOK.out HVAL.out).mono ?_;rintro e w8 ⟨v8,rfl,s8,x8⟩;have O8:=Lib.hid s8;have X8:=Lib.hid (hS0.1.trans x8);have K8:Ext w1 w8∧w8.cell? ⟨bq,op_+k,none⟩=some (.int .i64 px)∧w8.cell? ⟨bq,op_+(k+1),none⟩=some (.int .i64 py):=⟨X2.out.trans X8.out,x8.at hS0.2.1,x8.at hS0.2.2⟩;clear s8)
       |fail)
     all_goals
      have X12:=Lib.hid K9.1
      clear hS0
      go_wp2_with fail
      go_roundg (M - (k+1))
      case measure=>omega
      case rel=>exact⟨k+1,_,by omega,by omega,rfl,by go_num,rfl,by show OwnOf _ _ _ _ _ _ _;rw [HBK.out];exact O9.out,X12.out⟩
   ·have hd : ¬(k:Int)+1<(M:Int):=by omega
    have hkM:k=P.length - 1:=by have:=HM.out;omega
    have hall:binUpto (binG tr (-1) a b) P k=refBin (refJ tr (-1)) a b:=by rw [HREF.out,hkM]
    have hol:(binUpto (binG tr (-1) a b) P k).length≤2400:=Nat.le_trans (binUpto_len _ P 72 (binG_len tr (-1) a b HLL.out.1 HLL.out.2) k) (by omega)
    have hop2:(pts (binUpto (binG tr (-1) a b) P k)).length≤1000:=by
     refine Nat.le_trans (asc_len (pts_law _).1 (xs:=P) fun x hx=>binUpto_bnd _ P k (by omega) x (((pts_law _).2.1 x).1 hx)) ?_
     have:=HM.out
     omega
    rw [hall]at OT hol hop2
    have HOL:=Lib.hid (And.intro hol hop2)
    clear hkM hall hol hop2
    go_wp2_with fail
    refine(refNormT_any _ _ _ OT.out.slice (by have:=HOL.out;omega) HOL.out.2).mono ?_
    rintro e w12 ⟨v12,rfl,s12,x12⟩
    have S12:=Lib.hid s12
    have X12:=Lib.hid ((X1.out.trans X2.out).trans x12)
    clear s12 x12
    go_wp2_with fail
    go_ret
    exact⟨_,rfl,S12.out,X12.out⟩
 ·have hW0 : -1≤Wj∧Wj≤64:=by omega
  have eWj:min (max width 0) 64=Wj:=hWj.symm
  have HWJ:=Lib.hid hW0
  clear hW0 hWj
  go_enter Tryz.func22,Tryz.ntmps22
  go_wp2_with (at_builtin;go_loud (refine wpList_append_all Rep.tup (fun _=>True) rfl _ _ 22 rfl w.heap.size 96 i1 _ 64 Tryz.underlying22 hi1 hz10 hz11 hz12 rfl (by decide) (.slice none 0 0) [] rfl (OwnOf.nil _ _ _ _ _) (.slice pa na ca) a rfl (HA.out.ext (all_nil _)) HBB.out.1.1 HBB.out.1.2 (Nat.le_refl _) ?_))
  intro v3 w3 own3 gr3 _
  have X3:=Lib.hid (ext_grown (Ext.refl w) gr3 (own_nil _))
  have O3:=Lib.hid own3
  clear own3 gr3
  go_wp2_with (at_builtin;go_loud (refine wpList_append_all Rep.tup (fun _=>True) rfl _ _ 22 rfl w.heap.size 96 i1 _ 64 Tryz.underlying22 hi1 hz10 hz11 hz12 rfl (by decide) v3 a rfl O3.out (.slice pb nb cb) b rfl (HB.out.ext (old_all X3.out O3.out.base)) HBB.out.2.1 HBB.out.2.2 X3.out.size ?_))
  intro v4 w4 own4 gr4 _
  have X4:=Lib.hid (ext_grown X3.out gr4 O3.out.base)
  have O4:=Lib.hid own4
  clear own4 gr4 O3 X3
  go_wp2_with fail
  refine(ref_bounds _ (a++b) _ O4.out.slice (by rw [List.length_append];have:=HLL.out;omega)).mono ?_
  rintro e w1 ⟨u1,rfl,t1,x1⟩
  have X1:=Lib.hid (X4.out.trans x1)
  obtain⟨P,hP⟩ : ∃P,P=pts (a++b):=⟨_,rfl⟩
  have hpl:P.length≤32:=by rw [hP];have h:=pts_len (a++b);rw [List.length_append]at h;have:=HLL.out;omega
  rw [←hP]at t1
  obtain⟨bp,cp,rfl,_,_,hpp⟩:=t1.form
  have T1:=Lib.hid t1
  have HPF:=Lib.hid hpp
  have HOKP:=Lib.hid (show ∀x∈P,okI x from fun x hx=>t1.ints x hx)
  have HPV:=Lib.hid (show ∀i,i+1<P.length→validB P[i]! P[i+1]! = true from fun i hi=>by
   obtain⟨p1,p2,_⟩:=pts_law (a++b)
   rw [←hP]at p1 p2
   exact pts_valid p1 (fun x hx=>bnd_rng _ x ((p2 x).1 hx)) hi)
  have T1B:=Lib.hid (show ∀q oo,bp=some ⟨q,oo,none⟩→0<P.length→q<w1.heap.size from fun q oo hq h0=>by
   subst hq
   exact cell_lt (int_at t1 0 h0).1)
  have HREF:=Lib.hid (show refBin (refJ tr Wj) a b=binUpto (binG tr Wj a b) P (P.length - 1)from by rw [hP];rfl)
  obtain⟨M,hM⟩ : ∃M,M=P.length:=⟨_,rfl⟩
  rw [←hM]at T1 HPF hpl ⊢
  have HM:=Lib.hid hM
  have AT:=Lib.hid ((HA.out.ext X1.out.full).ext (full_on w1 (fun k=>k<w1.heap.size) fun k hk=>hk))
  have BT:=Lib.hid ((HB.out.ext X1.out.full).ext (full_on w1 (fun k=>k<w1.heap.size) fun k hk=>hk))
  have ET:=Lib.hid (HE.out.ext X1.out.full)
  have hmw1:IntKind.i64.wrap (nab:Int)=(nab:Int):=by rw [IntKind.wrap_i64];omega
  have hmw2:IntKind.i64.wrap ((nab:Int)+(na:Int))=(nab:Int)+(na:Int):=by rw [IntKind.wrap_i64];omega
  have hmw3:IntKind.i64.wrap ((nab:Int)+(na:Int)+1)=(nab:Int)+(na:Int)+1:=by rw [IntKind.wrap_i64];omega
  clear t1 x1 hP hpp hM O4 X4 HA HB HE
  go_wp2_with fail
  go_loopg [15,16] M (fun gk vo vi wr=> ∃(k:Nat) (u:Value),k≤M∧(0<k→k<M)∧gk=M - k∧vi = .int .i64 k∧u=vo∧Hid (OwnOf Rep.tup wr (fun _=>True) w1.heap.size 96 u (binUpto (binG tr Wj a b) P k))∧Hid (Ext w1 wr))
  case atStart=>exact⟨0,_,by omega,by omega,rfl,rfl,rfl,OwnOf.nil _ _ _ _ _,Ext.refl w1⟩
  case round =>
   obtain⟨k,u,hk,hk2,rfl,rfl,rfl,OT,X2⟩:=hrel
   have hw0:IntKind.i64.wrap ((k:Int)+1)=(k:Int)+1:=by rw [IntKind.wrap_i64];omega
   by_cases hlt:k+1<M
   ·have hd:decide ((k:Int)+1<(M:Int))=true:=by simp;omega
    obtain⟨wo,rfl⟩ : ∃z,z=wr:=⟨wr,rfl⟩
    have hkl:k<P.length:=by have:=HM.out;omega
    have hkl2:k+1<P.length:=by have:=HM.out;omega
    obtain⟨bq,op_,rfl⟩:=HPF.out (by decide) (by omega)
    have hpv:=T1.out
    rw [HM.out]at hpv
    obtain⟨cp0,_⟩:=int_at hpv k hkl
    obtain⟨cp1,_⟩:=int_at hpv (k+1) hkl2
    have hbk:binUpto (binG tr Wj a b) P (k+1)=binUpto (binG tr Wj a b) P k++(binG tr Wj a b P[k]!).map fun r=>tupOf r ⟨P[k]!,P[k+1]!⟩:=rfl
    have hval:=HPV.out k hkl2
    rw [getElem!_pos P k hkl,getElem!_pos P (k+1) hkl2]at hbk hval
    have hok:=And.intro (HOKP.out P[k] (List.getElem_mem hkl)) (HOKP.out P[k+1] (List.getElem_mem hkl2))
    have hol:(binUpto (binG tr Wj a b) P k).length≤2400:=Nat.le_trans (binUpto_len _ P 72 (binG_len tr Wj a b HLL.out.1 HLL.out.2) k) (by omega)
    obtain⟨OL,hOL⟩ : ∃z,z=binUpto (binG tr Wj a b) P k:=⟨_,rfl⟩
    rw [←hOL]at OT hbk hol
    replace cp0:=X2.out.at cp0
    replace cp1:=X2.out.at cp1
    generalize P[k]=px at cp0 hbk hval hok
    generalize P[k+1]=py at cp1 hbk hval hok
    have HBK:=Lib.hid hbk
    have HVAL:=Lib.hid hval
    have HOK:=Lib.hid hok
    have HOL:=Lib.hid hol
    have HBQ:=Lib.hid (Nat.lt_of_lt_of_le (T1B.out bq op_ rfl (by omega)) (Nat.le_refl w1.heap.size))
    have CPX:=Lib.hid (And.intro cp0 cp1)
    have hkM:(k:Int)<(M:Int):=by omega
    have hkM2:k<M:=by omega
    have hi3:(0:Int)≤(k:Int)+1:=by omega
    have hi4:(k:Int)+1<(M:Int):=by omega
    obtain⟨T,hT⟩ : ∃T:Nat→Prop,T=fun q=>q<w1.heap.size∨wo.heap.size≤q:=⟨_,rfl⟩
    have HTN:=Lib.hid (show ∀wz,Ext wo wz→ ∀q,wz.heap.size≤q→T q from fun wz hz q hq=>by rw [hT];exact .inr (Nat.le_trans hz.size hq))
    have HTO:=Lib.hid (show ∀wz,Ext wo wz→Sub (on w1 fun q=>q<w1.heap.size) (on wz T)from fun wz hz=>((X2.out.trans hz).sub _).trans (on_mono _ fun q _ hq=>by rw [hT];exact .inl hq))
    have HTA:=Lib.hid (show ∀(wz:World) b,Value.ownBlock u=some b→ ¬T b from fun wz b hb ht=>by
     have h1:=OT.out.lt b hb
     rw [hT]at ht
     rcases ht with h | h <;> omega)
    have hS0:Ext wo wo.drew∧wo.drew.cell? ⟨bq,op_+k,none⟩=some (.int .i64 px)∧wo.drew.cell? ⟨bq,op_+(k+1),none⟩=some (.int .i64 py):=⟨(Ext.refl wo).drew,cp0,cp1⟩
    have e0:=cell_lt cp0
    clear hpv hbk hval hok hol hOL hT cp0 cp1
    go_wp2_with fail
    go_region_held3 (fun w'=>Ext wo w'∧w'.cell? ⟨bq,op_+k,none⟩=some (.int .i64 px)∧w'.cell? ⟨bq,op_+(k+1),none⟩=some (.int .i64 py))
     (first |with_reducible assumption | with_reducible exact keepE2 (by assumption) x6 | with_reducible exact keepE2 (by assumption) x5)
     (first
      |(go_at_call 62;(with_reducible have q5:=OX.out);refine(ref_timesliceT T _ b px _ (by exact HTN.out _ (And.left ‹Ext wo _∧_›)) (by exact BT.out.ext (HTO.out _ (And.left ‹Ext wo _∧_›))) (by have:=HLL.out;omega)).mono ?_;rintro e w6 ⟨v6,rfl,s6,x6⟩;have OY:=Lib.hid s6;have OX2:=Lib.hid (OX.out.ext (x6.sub _));clear s6 q5)
      |(go_at_call 62;refine(ref_timesliceT T _ a px _ (by exact HTN.out _ (And.left ‹Ext wo _∧_›)) (by exact AT.out.ext (HTO.out _ (And.left ‹Ext wo _∧_›))) (by have:=HLL.out;omega)).mono ?_;rintro e w5 ⟨v5,rfl,s5,x5⟩;have OX:=Lib.hid s5;clear s5)
      |fail)
    all_goals
     have K6:= ‹Ext wo _∧_›
     have X6:=Lib.hid K6.1
     have CP6:=Lib.hid K6.2
     clear hS0 K6
     go_wp2_with fail
     refine(refJoin_any T _ _ _ _ _ es pred Wj ((nab:Int)+(na:Int)+1) _ (HTN.out _ X6.out) OX2.out OY.out (by have h:=slice_le a px;have:=HLL.out;omega) (by have h:=slice_le b px;have:=HLL.out;omega) (slice_fitJ HFA.out px) (slice_fitJ HFB.out px) (ET.out.ext (X2.out.trans X6.out).full) HEL.out (by have:=HWJ.out;omega)).mono ?_
     rintro e w7 ⟨v7,l7,rfl,s7,hw7,x7⟩
     rw [←HTR.out]at hw7
     have hl7:=whole_is HMOST.out hw7
     rw [hl7]at s7
     have hgl:=binG_len tr Wj a b HLL.out.1 HLL.out.2 px
     obtain⟨GL,hGL⟩ : ∃z,z=binG tr Wj a b px:=⟨_,rfl⟩
     rw [←hGL]at s7 hgl HBK
     have S7:=Lib.hid s7
     have X7:=Lib.hid (X6.out.trans x7)
     have cp0:=x7.at CP6.out.1
     have cp1:=x7.at CP6.out.2
     have HGL:=Lib.hid hgl
     have hS0:Ext wo w7.drew∧w7.drew.cell? ⟨bq,op_+k,none⟩=some (.int .i64 px)∧w7.drew.cell? ⟨bq,op_+(k+1),none⟩=some (.int .i64 py):=⟨X7.out.drew,cp0,cp1⟩
     have C1:OL.length+(GL.map fun r=>tupOf r ⟨px,py⟩).length≤maxLen:=by rw [List.length_map];have:=HOL.out;unfold maxLen;omega
     have C2:(OL.length+(GL.map fun r=>tupOf r ⟨px,py⟩).length)*64≤140737488355328:=by rw [List.length_map];have:=HOL.out;omega
     have HC:=Lib.hid (And.intro C1 C2)
     clear s7 hw7 hl7 hGL hgl x7 cp0 cp1 C1 C2 OX2 OY
     go_wp2_with fail
     go_region_held3 (fun w'=>Ext w1 w'∧w'.cell? ⟨bq,op_+k,none⟩=some (.int .i64 px)∧w'.cell? ⟨bq,op_+(k+1),none⟩=some (.int .i64 py))
      (first |exact⟨X2.out.trans hS0.1,hS0.2.1,hS0.2.2⟩ | with_reducible assumption | with_reducible exact keepE2 (by assumption) x8)
      (first
       |((with_reducible have q8:=O8.out);refine step_append_all Rep.tup (fun _=>True) rfl _ _ 22 rfl w1.heap.size 96 i1 _ 64 Tryz.underlying22 hi1 hz10 hz11 hz12 rfl (by decide) u OL rfl (OT.out.ext X8.out) v8 (GL.map fun r=>tupOf r ⟨px,py⟩) rfl (O8.out.ext (on_mono _ fun q _ hq=>⟨fun e=>HTA.out w8 q e.symm hq,trivial⟩)) HC.out.1 HC.out.2 (X2.out.trans X8.out).size ?_;intro v9 w9 own9 gr9 _;have K9:=keepP2 K8 gr9 (fun q hq=>(OT.out.lt q hq).1) (fun q hq=>by have h1:=(OT.out.lt q hq).1;have h2:=HBQ.out;exact⟨by omega,by omega⟩);have O9:=Lib.hid own9;clear own9 q8)
       |(go_at_call 63;refine(refFromRows_any T _ GL px py _ (by exact HTN.out _ hS0.1) (by exact S7.out.ext ((Ext.refl _).drew.sub _)) (by have:=HGL.out;omega) HOK.out HVAL.out).mono ?_;rintro e w8 ⟨v8,rfl,s8,x8⟩;have O8:=Lib.hid s8;have X8:=Lib.hid (hS0.1.trans x8);have K8:Ext w1 w8∧w8.cell? ⟨bq,op_+k,none⟩=some (.int .i64 px)∧w8.cell? ⟨bq,op_+(k+1),none⟩=some (.int .i64 py):=⟨X2.out.trans X8.out,x8.at hS0.2.1,x8.at hS0.2.2⟩;clear s8)
       |fail)
     all_goals
      have X12:=Lib.hid K9.1
      clear hS0
      go_wp2_with fail
      go_roundg (M - (k+1))
      case measure=>omega
      case rel=>exact⟨k+1,_,by omega,by omega,rfl,by go_num,rfl,by show OwnOf _ _ _ _ _ _ _;rw [HBK.out];exact O9.out,X12.out⟩
   ·have hd : ¬(k:Int)+1<(M:Int):=by omega
    have hkM:k=P.length - 1:=by have:=HM.out;omega
    have hall:binUpto (binG tr Wj a b) P k=refBin (refJ tr Wj) a b:=by rw [HREF.out,hkM]
    have hol:(binUpto (binG tr Wj a b) P k).length≤2400:=Nat.le_trans (binUpto_len _ P 72 (binG_len tr Wj a b HLL.out.1 HLL.out.2) k) (by omega)
    have hop2:(pts (binUpto (binG tr Wj a b) P k)).length≤1000:=by
     refine Nat.le_trans (asc_len (pts_law _).1 (xs:=P) fun x hx=>binUpto_bnd _ P k (by omega) x (((pts_law _).2.1 x).1 hx)) ?_
     have:=HM.out
     omega
    rw [hall]at OT hol hop2
    have HOL:=Lib.hid (And.intro hol hop2)
    clear hkM hall hol hop2
    go_wp2_with fail
    refine(refNormT_any _ _ _ OT.out.slice (by have:=HOL.out;omega) HOL.out.2).mono ?_
    rintro e w12 ⟨v12,rfl,s12,x12⟩
    have S12:=Lib.hid s12
    have X12:=Lib.hid ((X1.out.trans X2.out).trans x12)
    clear s12 x12
    go_wp2_with fail
    go_ret
    exact⟨_,rfl,S12.out,X12.out⟩
end Go.Proofs.YtkddkbpoefidpaaGreatDoor
namespace Go.Proofs.YtkddkbpoefidpaaGreatDoor
open Go.RowKit Go.Maps Go.ChangeMaps Go.MapKept
open Go.WideMaps (KeyLaw)
open Go.WideElems (Fit)
theorem pw_unique {α β:Type} {f:α→β} : ∀ {l:List α},(l.Pairwise fun x y=>f x≠f y)→ ∀ {x y:α},x∈l→y∈l→f x=f y→x=y:=by
 intro l
 induction l with
 |nil=>intro _ x _ hx;cases hx
 |cons a l ih =>
  intro h x y hx hy e
  obtain⟨h1,h2⟩:=List.pairwise_cons.1 h
  rcases List.mem_cons.1 hx with e1 | hx1
  ·rcases List.mem_cons.1 hy with e2 | hy1
   ·rw [e1,e2]
   ·subst e1;exact absurd e (h1 y hy1)
  ·rcases List.mem_cons.1 hy with e2 | hy1
   ·subst e2;exact absurd e.symm (h1 x hx1)
   ·exact ih h2 hx1 hy1 e
theorem entry_v {P:Program} {w:World} {t k e:TypeId} (K:KeyLaw P k) (ht:P.underlying t=some (.map k e)) {z:Value} (hz : ∀u:World,(zeroValue e).run P u = .ok z u) {S:Value→Prop} (hS:S z) {b n:Nat} {mp:Lit→Option Value} (hM:MapV w P k S b n mp) (hn:n<maxLen) {key:Value} {kl:Lit} (hkey:keyOf P k key=some kl) :
  ∃(v0:Value) (st:Nat) (o:Obj),(Instr.mapEntry t (.map (some b)) key).run P w = .ok (.tuple #[v0,goInt st]) (setBlock w b o)∧Hid (v0=(mp kl).getD z)∧S v0∧(setBlock w b o).heap[b]?=some o∧w.grownBy (setBlock w b o) (some b) ∧
   ∀(w2:World) (val:Value),w2.heap[b]?=some o→S val→ ∃w3,(Instr.entryStore t (.map (some b)) (goInt st) val).run P w2 = .ok () w3∧MapV w3 P k S b (n+1) (putV mp kl val)∧w2.grownBy w3 (some b):=by
 obtain⟨D,hO,hR⟩:=hM
 obtain⟨v1,ps1,hl1,hr1⟩:=hO.lookup (Keyed.of_law K) ht (hz w) (rawR_mk hS) hkey
 obtain⟨hs1,hv1⟩:=rawR_inv hr1
 have hvv:v1=(mp kl).getD z:=by
  have h3:=hR.2 kl ((Keyed.of_law K).key hkey) (.held z)
  rw [(Prod.mk.inj hv1).1]at h3
  cases hmk:mp kl with
  |none=>rw [hmk]at h3;injection h3
  |some u=>rw [hmk]at h3;injection h3
 have hU:=fun val (hval:S val)=>hO.update (Keyed.of_law K) ht hn (val:=val) hkey (rawR_mk hval)
 obtain⟨es,clock,hb,F,hsz,rfl⟩:=hO
 obtain⟨v0,st,es1,clock1,h1,h2,h3⟩:=Go.WideElems.entry_then_store K ht hz hb F hkey
 have h01:v0=v1:=by
  rcases fit_look false (Keyed.of_law K) ht (hz w) hb F hkey with ⟨hrun,hno,_⟩ | ⟨e0,y,he0,hk0,hrun,_⟩
  ·rw [hl1]at hrun
   rcases h2 with ⟨e1,he1,hk1,_⟩ | ⟨_,rfl⟩
   ·exact absurd hk1 (hno e1 he1)
   ·injection hrun with hr _
    exact hr.symm
  ·rw [hl1]at hrun
   injection hrun with hr _
   rcases h2 with ⟨e1,he1,hk1,rfl⟩ | ⟨hno,_⟩
   ·have hap:es.toList.Pairwise (fun x y=>x.key≠y.key):=((stamped_iff es clock).1 F.stamped).2.2
    have:e0=e1:=pw_unique hap he0 he1 (hk0.trans hk1.symm)
    rw [←this]
    exact hr.symm
   ·exact absurd hk0 (hno e0 he0)
 have hg : ∀(u:World) (o:Obj) (es0:Array MapEntry) (c0:Nat),u.heap[b]?=some (.map es0 c0)→u.grownBy (setBlock u b o) (some b):=fun u o es0 c0 hu =>
  ⟨rfl,rfl,rfl,by simp [setBlock],fun i _ hi=>heap_setBlock_other hu _ (fun e=>hi (by rw [e]))⟩
 refine⟨v0,st,.map es1 clock1,h1,Lib.hid (h01.trans hvv),by rw [h01];exact hs1,heap_setBlock_same hb _,hg w _ _ _ hb,fun w2 val hw2 hval=> ?_⟩
 obtain⟨es',clock',hs2,hup⟩:=h3 w2 val hw2
 obtain⟨w',hup',hown',_⟩:=hU val hval
 rw [hup]at hup'
 injection hup' with _ hw'
 subst hw'
 obtain⟨es'',clock'',hb'',F'',hsz'',hD''⟩:=hown'
 have hbb:(setBlock w b (.map es' clock')).heap[b]?=some (.map es' clock'):=heap_setBlock_same hb _
 rw [hbb]at hb''
 injection hb'' with hb''
 injection hb'' with he1 he2
 subst he1 he2
 exact⟨_,hs2,⟨_,⟨es',clock',heap_setBlock_same hw2 _,F'',hsz'',rfl⟩,by rw [←hD''];exact hR.put ((Keyed.of_law K).key hkey) val⟩,hg w2 _ _ _ hw2⟩
end Go.Proofs.YtkddkbpoefidpaaGreatDoor
namespace Go.Proofs.YtkddkbpoefidpaaGreatDoor
open Go.RowKit Go.Maps
noncomputable def perKey (p:Per):Lit:= .string (keyBytes [.int .i64 p.from_,.int .i64 p.to_])
theorem perKey_of (p:Per) (h:okI p.from_∧okI p.to_):keyOf Tryz.prog 94 (.agg #[.int .i64 p.from_,.int .i64 p.to_])=some (perKey p):=by
 obtain⟨f,t⟩:=p
 obtain⟨h1,h2⟩:=h
 unfold okI at h1 h2
 dsimp only at h1 h2
 have hf:(Lit.int .i64 f).wf=true:=by simpa [Lit.wf,IntKind.min,IntKind.max,IntKind.signed,IntKind.bits] using h1
 have ht:(Lit.int .i64 t).wf=true:=by simpa [Lit.wf,IntKind.min,IntKind.max,IntKind.signed,IntKind.bits] using h2
 unfold perKey
 unfold keyOf
 simp only [Tryz.underlying94]
 have hk:Tryz.prog.keyType 94=true:=by kernel_rfl
 have key : ∀d,Tryz.prog.keyLits (d+2) 94 [.int .i64 f,.int .i64 t]=some [.int .i64 f,.int .i64 t]:=fun d=>by
  unfold Program.keyLits
  rw [Tryz.underlying94]
  have hc:Tryz.prog.cellsOf 94=2:=by kernel_rfl
  have hi:Tryz.prog.cellsOf 3=1:=by kernel_rfl
  simp [Program.keyLits,Tryz.underlying3,hf,ht,hc,hi]
 have hts:decide (0<Tryz.prog.types.size)=true:=by kernel_rfl
 obtain⟨d,hd⟩ : ∃d,Tryz.prog.types.size+1=d+2:=by
  have:=of_decide_eq_true hts
  exact⟨Tryz.prog.types.size - 1,by omega⟩
 have hform:Value.formed Tryz.prog 94 (.agg #[.int .i64 f,.int .i64 t])=true:=by
  unfold Value.formed
  rw [Tryz.underlying94]
  have hc:Tryz.prog.cellsOf 94=2:=by kernel_rfl
  simp [hc]
 have hcl:(Value.agg #[.int .i64 f,.int .i64 t]).cells.toList = [.int .i64 f,.int .i64 t]:=by simp [Value.cells]
 rw [hk,hform,hcl,hd,key]
 rfl
theorem laidOutI:laidOutB Tryz.prog=true:=by kernel_rfl
theorem per_law:WideMaps.KeyLaw Tryz.prog 94:=deep_law_laid laidOutI (m:=5) (by decide) (of_decide_eq_true (by kernel_rfl)) (by kernel_rfl) (by kernel_rfl)
theorem perKey_inj {p q:Per} (hp:okI p.from_∧okI p.to_) (hq:okI q.from_∧okI q.to_) (h:perKey p=perKey q):p=q:=by
 have h1:=perKey_of p hp
 have h2:=perKey_of q hq
 rw [←h]at h2
 have h3:=per_law.inj h1 h2
 obtain⟨f,t⟩:=p
 obtain⟨f',t'⟩:=q
 simp at h3
 rw [h3.1,h3.2]
open Classical in
noncomputable def ofPer (l:List Tup) (p:Per):List Tup:=l.filter fun y=>decide (tupPer y=p)
structure CInv (w:World) (S:Nat→Prop) (base:Nat) (T:TypeId) (l:List Tup) (mp:Lit→Option Value):Prop where
 ok : ∀t∈l,okI (tupPer t).from_∧okI (tupPer t).to_
 p1 : ∀kl v,mp kl=some v→ ∃t∈l,kl=perKey (tupPer t)∧OwnOf Rep.tup w S base T v (ofPer l (tupPer t))
 p2 : ∀t∈l,(mp (perKey (tupPer t))).isSome=true
 ap : ∀kl kl' v v',kl≠kl'→mp kl=some v→mp kl'=some v'→Apart v v'
section
variable {w w':World} {S:Nat→Prop} {base:Nat} {T:TypeId} {l:List Tup} {mp:Lit→Option Value}
theorem CInv.nil (w:World) (S:Nat→Prop) (base:Nat) (T:TypeId):CInv w S base T [] (fun _=>none):=⟨fun _ h=>(by cases h),fun _ _ h=>(by cases h),fun _ h=>(by cases h),fun _ _ _ _ _ h=>(by cases h)⟩
theorem CInv.keep (h:CInv w S base T l mp) {row:Option Nat} (gr:w.grownBy w' row) (hS : ∀k,S k→row≠some k) (hr : ∀k,row=some k→k<base∨w.heap.size≤k):CInv w' S base T l mp :=
 ⟨h.ok,fun kl v hm=>by
  obtain⟨t,h1,h2,h3⟩:=h.p1 kl v hm
  exact⟨t,h1,h2,own_grown h3 gr hS fun k hk e=>by have:=h3.lt k hk;have:=hr k e;omega⟩,h.p2,h.ap⟩
theorem CInv.ext (h:CInv w S base T l mp) (hx:Ext w w'):CInv w' S base T l mp:=h.keep (Ext.grows hx) (fun k _ e=>by cases e) (fun k e=>by cases e)
open Classical in
theorem CInv.own (h:CInv w S base T l mp) {p:Per} (hp:okI p.from_∧okI p.to_):OwnOf Rep.tup w S base T ((mp (perKey p)).getD (.slice none 0 0)) (ofPer l p):=by
 cases hm:mp (perKey p)with
 |some v =>
  obtain⟨t,h1,h2,h3⟩:=h.p1 _ v hm
  rw [perKey_inj hp (h.ok t h1) h2]
  exact h3
 |none =>
  have:ofPer l p = []:=by
   unfold ofPer
   rw [List.filter_eq_nil_iff]
   intro t ht hc
   have h2:=h.p2 t ht
   rw [of_decide_eq_true hc,hm]at h2
   cases h2
  rw [this]
  exact OwnOf.nil _ _ _ _ _
theorem CInv.apart (h:CInv w S base T l mp) {p:Per} {kl:Lit} {v:Value} (hne:kl≠perKey p) (hm:mp kl=some v):Apart v ((mp (perKey p)).getD (.slice none 0 0)):=by
 cases hr:mp (perKey p)with
 |some u=>exact h.ap kl _ v u hne hm hr
 |none=>exact fun k _ e=>by cases e
open Classical in
theorem CInv.step (h:CInv w S base T l mp) {t:Tup} (ht:okI (tupPer t).from_∧okI (tupPer t).to_) {g a b:Nat} (own:OwnOf Rep.tup w' S base T (.slice (some ⟨g,0,none⟩) a b) (ofPer l (tupPer t) ++ [t])) (gr:w.grownBy w' ((mp (perKey (tupPer t))).getD (.slice none 0 0)).ownBlock)
  (hS : ∀k,S k→((mp (perKey (tupPer t))).getD (.slice none 0 0)).ownBlock≠some k) (hg:((mp (perKey (tupPer t))).getD (.slice none 0 0)).ownBlock=some g∨g=w.heap.size) :
  CInv w' S base T (l ++ [t]) (putV mp (perKey (tupPer t)) (.slice (some ⟨g,0,none⟩) a b)):=by
 have hyes:ofPer (l ++ [t]) (tupPer t)=ofPer l (tupPer t) ++ [t]:=by
  unfold ofPer
  rw [List.filter_append,List.filter_cons,if_pos (decide_eq_true rfl)]
  rfl
 have hno : ∀p,p≠tupPer t→ofPer (l ++ [t]) p=ofPer l p:=fun p hp=>by
  unfold ofPer
  rw [List.filter_append,List.filter_cons,if_neg (by simpa using fun e=>hp e.symm)]
  simp
 refine⟨fun u hu=> ?_,fun kl v hm=> ?_,fun u hu=> ?_,fun kl kl' v v' hne hm hm'=> ?_⟩
 ·rcases List.mem_append.1 hu with hu | hu
  ·exact h.ok u hu
  ·rw [List.mem_singleton]at hu;subst hu;exact ht
 ·by_cases e:kl=perKey (tupPer t)
  ·subst e
   rw [putV_same]at hm
   exact⟨t,by simp,rfl,by rw [hyes,←Option.some.inj hm];exact own⟩
  ·rw [putV_other _ _ e]at hm
   obtain⟨u,h1,h2,h3⟩:=h.p1 kl v hm
   refine⟨u,List.mem_append_left _ h1,h2,?_⟩
   rw [hno _ fun c=>e (by rw [h2,c])]
   exact own_grown h3 gr hS fun k hk e2=>h.apart e hm k hk e2
 ·by_cases e:perKey (tupPer u)=perKey (tupPer t)
  ·rw [e,putV_same];rfl
  ·rw [putV_other _ _ e]
   rcases List.mem_append.1 hu with hu | hu
   ·exact h.p2 u hu
   ·rw [List.mem_singleton]at hu;subst hu;exact absurd rfl e
 ·by_cases e:kl=perKey (tupPer t)
  ·by_cases e':kl'=perKey (tupPer t)
   ·exact absurd (e.trans e'.symm) hne
   ·subst e
    rw [putV_same]at hm
    rw [putV_other _ _ e']at hm'
    obtain⟨u,_,_,h3⟩:=h.p1 kl' v' hm'
    rw [←Option.some.inj hm]
    exact((h.apart e' hm').grow (fun k hk=>(h3.lt k hk).2) hg).symm
  ·rw [putV_other _ _ e]at hm
   obtain⟨u,_,_,h3⟩:=h.p1 kl v hm
   by_cases e':kl'=perKey (tupPer t)
   ·subst e'
    rw [putV_same]at hm'
    rw [←Option.some.inj hm']
    exact(h.apart e hm).grow (fun k hk=>(h3.lt k hk).2) hg
   ·rw [putV_other _ _ e']at hm'
    exact h.ap kl kl' v v' hne hm hm'
end
end Go.Proofs.YtkddkbpoefidpaaGreatDoor
namespace Go.Proofs.YtkddkbpoefidpaaGreatDoor
open Go.RowKit
theorem bnd_take (l:List Tup) (k:Nat) (h:k<l.length):bnd (l.take (k+1))=bnd (l.take k)++if validB l[k].from_ l[k].to_=true then [l[k].from_,l[k].to_]else []:=by
 rw [List.take_succ_eq_append_getElem h,bnd_append]
 simp only [bnd,List.flatMap_cons,List.flatMap_nil,List.append_nil]
 rfl
set_option maxRecDepth 100000 in
set_option maxHeartbeats 4000000 in
theorem bounds_any (v:Value) (l:List Tup) (w:World) (hv:SliceOf Rep.tup w.cell? v l) (hl:l.length≤1048576) :
  Calls Tryz.prog 55 #[v] w fun e w'=> ∃v',e = .returned v'∧OwnOf Rep.int w' (fun _=>True) w.heap.size 3 v' (pts l)∧Ext w w':=by
 obtain⟨i2,hi2,hz20,hz21,hz22⟩:=info_parts info_ints
 obtain⟨p,cap,rfl,hc1,hc2,hp⟩:=hv.form
 obtain⟨N,hN⟩ : ∃N,N=l.length:=⟨_,rfl⟩
 have HV:=Lib.hid hv
 rw [←hN]
 have HN:=Lib.hid hN
 have HP:=Lib.hid hp
 have hNl:N≤1048576:=by omega
 clear hv hN hp hc1 hc2 hl
 go_enter Tryz.func55,Tryz.ntmps55
 go_wp2_with fail
 go_loopg [3,8] N (fun gk vo vi wr=> ∃(k:Nat) (u:Value) (o:List Int),k≤N∧gk=N - k∧vi = .int .i64 k∧u=vo∧Hid (OwnOf Rep.int wr (fun _=>True) w.heap.size 3 u o)∧Hid (o=bnd (l.take k))∧Ext w wr)
 case atStart=>exact⟨0,_,[],by omega,rfl,rfl,rfl,OwnOf.nil _ _ _ _ _,rfl,Ext.refl w⟩
 case round =>
  obtain⟨k,u,o,hk,rfl,rfl,rfl,OW,AS,hx⟩:=hrel
  by_cases hlt:k<N
  ·have hkl:k<l.length:=by have:=HN.out;omega
   obtain⟨b,o',rfl⟩:=HP.out (by decide) (by omega)
   have hv:=HV.out
   rw [←HN.out]at hv
   obtain⟨ta,tb,c0,c1,c2,c3,g0,g1,r1,r2⟩:=tup_at hv k hkl
   obtain⟨pa,ka,ta',_⟩:=g0.form
   obtain⟨pb,kb,tb',_⟩:=g1.form
   subst ta' tb'
   replace c0:=hx.at c0
   replace c1:=hx.at c1
   replace c2:=hx.at c2
   replace c3:=hx.at c3
   have hst:=bnd_take l k hkl
   have hol:o.length≤2097152:=by
    have h2:=bnd_len (l.take k)
    have h3:=List.length_take_le k l
    rw [AS.out]
    omega
   rw [←AS.out]at hst
   generalize l[k].from_=f at c1 hst r1
   generalize l[k].to_=t at c2 hst r2
   generalize l[k].vals.length=na at c0
   generalize l[k].lin.length=nb at c3
   have HST:=Lib.hid hst
   have HR:=Lib.hid (show okI f∧okI t from ⟨r1,r2⟩)
   have B1:o.length+2≤maxLen:=by unfold maxLen;omega
   have B2:(o.length+2)*8≤140737488355328:=by omega
   have hd:decide ((k:Int)<(N:Int))=true:=by simp;omega
   have e0:=cell_lt c0
   clear hst g0 g1 r1 r2 hv hol
   go_wp2_with fail
   refine(valid_any f t _).mono ?_
   rintro e w1 ⟨rfl,x1⟩
   have d1:w1.cell? ⟨wr.heap.size,1,none⟩=some (.int .i64 f):=x1.at (by go_simp)
   have d2:w1.cell? ⟨wr.heap.size,2,none⟩=some (.int .i64 t):=x1.at (by go_simp)
   have X1:=Lib.hid (show Ext wr w1 from ((Ext.refl wr).alloc _).trans x1)
   have e1:=cell_lt d1
   clear x1 c0 c1 c2 c3 e0
   cases hvb:validB f t with
   |true =>
    have HVB:=Lib.hid hvb
    clear hvb
    go_wp2_with (at_builtin;refine wpList_append_all Rep.int (fun _=>True) rfl _ _ 24 rfl w.heap.size 3 i2 _ 8 Tryz.underlying24 hi2 hz20 hz21 hz22 rfl (by decide) u o rfl (OW.out.ext (X1.out.alloc _)) _ [f,t] rfl (lit_new (R:=Rep.int) w1 [.int .i64 f,.int .i64 t] 3 [[.int .i64 f],[.int .i64 t]] [f,t] rfl (fun _=>⟨⟨rfl,HR.out.1⟩,⟨rfl,HR.out.2⟩,trivial⟩) (by simp [maxLen]) (fun x hx=>Nat.lt_of_lt_of_le (OW.out.lt x hx).2 X1.out.size)) B1 B2 (by exact(hx.trans (X1.out.alloc _)).size) ?_)
    intro v3 w3 own gr _
    have hxx:Ext w w3:=Ext.grownNew (hx.trans (X1.out.alloc _)) gr OW.out.base
    have OW2:=Lib.hid own
    clear own gr d1 d2 e1
    go_wp2_with fail
    go_roundg (N - (k+1))
    case measure=>omega
    case rel=>exact⟨k+1,v3,_,by omega,rfl,by go_num,rfl,OW2.out,by show _=_;rw [HST.out,if_pos HVB.out],hxx⟩
   |false =>
    have HVB:=Lib.hid hvb
    clear hvb
    go_wp2_with fail
    go_roundg (N - (k+1))
    case measure=>omega
    case rel=>exact⟨k+1,u,o,by omega,rfl,by go_num,rfl,OW.out.ext X1.out,by show _=_;rw [HST.out,HVB.out,if_neg (by decide),List.append_nil],hx.trans X1.out⟩
  ·have hkN:k=N:=by omega
   have hd : ¬(k:Int)<(N:Int):=by omega
   have HF:=Lib.hid (show o=bnd l from by
    have h:=AS.out
    rw [hkN,HN.out,List.take_length]at h
    exact h)
   have hol:o.length≤2097152:=by
    have h2:=bnd_len l
    have:=HN.out
    rw [HF.out]
    omega
   have HOL:=Lib.hid hol
   clear hkN hol
   go_wp2_with fail
   refine(sort_ints (fun _=>True) _ _ _ _ _ OW.out (by have:=HOL.out;omega)).mono ?_
   rintro e w4 ⟨rfl,own4,gr4⟩
   have X4:=Lib.hid (Ext.grownNew hx gr4 OW.out.base)
   have OW4:=Lib.hid own4
   clear own4 gr4
   go_wp2_with fail
   refine(compact_ints (fun _=>True) _ _ _ _ _ OW4.out).mono ?_
   rintro e w5 ⟨v5,rfl,own5,gr5⟩
   have X5:=Lib.hid (Ext.grownNew X4.out gr5 OW4.out.base)
   have OW5:=Lib.hid (show OwnOf Rep.int w5 (fun _=>True) w.heap.size 3 v5 (pts l)from by
    have h:pts l=Lib.compact (o.mergeSort fun x y=>decide (x≤y)):=by unfold pts mergeL;rw [List.append_nil,HF.out]
    rw [h]
    exact own5)
   clear own5 gr5
   go_wp2_with fail
   go_ret
   exact⟨v5,rfl,OW5.out,X5.out⟩
end Go.Proofs.YtkddkbpoefidpaaGreatDoor
namespace Go.Proofs.YtkddkbpoefidpaaGreatDoor
open Go.RowKit Go.Maps
set_option maxRecDepth 100000 in
theorem align_any (va vb:Value) (a b:List Tup) (w:World) (ha:SliceOf Rep.tup w.cell? va a) (hb:SliceOf Rep.tup w.cell? vb b) (hla:a.length≤50) (hlb:b.length≤50) (hf : ∀t∈a,t.vals.length≤1048576∧t.lin.length≤1048576) :
  Calls Tryz.prog 73 #[va,vb] w fun e w'=> ∃v',e = .returned v'∧OwnOf Rep.tup w' (fun _=>True) w.heap.size 96 v' (splitT a (pts b))∧Ext w w':=by
 have HA:=Lib.hid ha
 have HB:=Lib.hid hb
 have HF:=Lib.hid hf
 have hpl:(pts b).length≤100:=by
  have h1:=(pts_law b).2.2
  have h2:=bnd_len b
  omega
 have hsp:=sortI_pts b
 obtain⟨P,hP⟩ : ∃z,z=pts b:=⟨_,rfl⟩
 rw [←hP]at hpl hsp ⊢
 have HP:=Lib.hid hP
 have HPL:=Lib.hid hpl
 have HSP:=Lib.hid hsp
 obtain⟨pa,ca,rfl,_⟩:=ha.form
 obtain⟨pb,cb,rfl,_⟩:=hb.form
 clear ha hb hf hpl hsp hP
 go_enter Tryz.func73,Tryz.ntmps73
 go_wp2_with fail
 refine(bounds_any _ b _ HB.out (by omega)).mono ?_
 rintro e w1 ⟨u1,rfl,o1,x1⟩
 rw [←HP.out]at o1
 have s1:=o1.slice
 obtain⟨p1,c1,rfl,_⟩:=s1.form
 have S1:=Lib.hid s1
 have X1:=Lib.hid x1
 clear s1 o1 x1
 go_wp2_with fail
 refine(split_any _ _ a P _ (HA.out.ext X1.out.full) S1.out hla HPL.out HF.out).mono ?_
 rintro e w2 ⟨u2,rfl,o2,x2⟩
 rw [HSP.out]at o2
 have T2:=Lib.hid (o2.weak (T:=fun _=>True) (base':=w.heap.size) (fun _ _ h=>h) X1.out.size)
 have X2:=Lib.hid (X1.out.trans x2)
 clear o2 x2 X1
 go_wp2_with fail
 go_ret
 exact⟨u2,rfl,T2.out,X2.out⟩
theorem MapV.noCell {w:World} {P:Program} {k:TypeId} {S:Value→Prop} {b n:Nat} {m:Lit→Option Value} (h:MapV w P k S b n m) {p:Addr} {v:Value} (hc:w.cell? p=some v):p.block≠b:=by
 obtain⟨D,⟨es,c,hb,_⟩,_⟩:=h
 intro e
 obtain⟨b',o,sp⟩:=p
 dsimp only at e
 subst e
 unfold World.cell? at hc
 simp [hb]at hc
theorem off_map {w:World} {P:Program} {k:TypeId} {S:Value→Prop} {b n:Nat} {m:Lit→Option Value} (h:MapV w P k S b n m):Sub w.cell? (on w (fun x=>x≠b)):=fun _ _ e=>on_some.2 ⟨h.noCell e,e⟩
theorem cutT_len2 (t:Tup) : ∀(P:List Int) (f:Int),(cutT t f P).length≤(P.filter fun p=>decide (f<p)&&decide (p<t.to_)).length+1:=by
 intro P
 induction P with
 |nil=>intro f;exact Nat.le_refl _
 |cons p P ih =>
  intro f
  unfold cutT
  split
  ·exact Nat.le_add_left _ _
  split
  ·rename_i c1 c2
   have h1:=ih p
   have h2:(P.filter fun q=>decide (p<q)&&decide (q<t.to_)).length≤(P.filter fun q=>decide (f<q)&&decide (q<t.to_)).length:=by
    rw [←List.countP_eq_length_filter,←List.countP_eq_length_filter]
    exact List.countP_mono_left fun q _ h=>by simp at h ⊢;omega
   rw [List.filter_cons,if_pos (by simp;omega),List.length_cons,List.length_cons]
   omega
  ·rename_i c1 c2
   rw [List.filter_cons,if_neg (by simp;omega)]
   exact ih f
theorem filt_lt {α:Type} {q:α→Bool} {z:α} : ∀ {P:List α},z∈P→q z=false→(P.filter q).length+1≤P.length:=by
 intro P
 induction P with
 |nil=>intro h;cases h
 |cons a P ih =>
  intro h hq
  rw [List.filter_cons,List.length_cons]
  have hle:(P.filter q).length≤P.length:=List.length_filter_le _ _
  rcases List.mem_cons.1 h with e | h1
  ·subst e
   rw [if_neg (by simp [hq])]
   omega
  ·have:=ih h1 hq
   split
   ·rw [List.length_cons];omega
   ·omega
theorem two_out {P:List Int} {q:Int→Bool} {x y:Int} (hx:x∈P) (hy:y∈P) (hne:x≠y) (h1:q x=false) (h2:q y=false):(P.filter q).length+2≤P.length:=by
 induction P with
 |nil=>cases hx
 |cons a P ih =>
  rw [List.filter_cons,List.length_cons]
  rcases List.mem_cons.1 hx with e1 | hx1
  ·rcases List.mem_cons.1 hy with e2 | hy1
   ·exact absurd (e1.trans e2.symm) hne
   ·subst e1
    have:=filt_lt hy1 h2
    rw [if_neg (by simp [h1])]
    omega
  ·rcases List.mem_cons.1 hy with e2 | hy1
   ·subst e2
    have:=filt_lt hx1 h1
    rw [if_neg (by simp [h2])]
    omega
   ·have:=ih hx1 hy1
    split
    ·rw [List.length_cons];omega
    ·omega
theorem splitT_len2 (l:List Tup) {P:List Int} (hb : ∀x∈bnd l,x∈P):(splitT l P).length≤l.length*(P.length - 1):=by
 have h : ∀m:List Tup,(∀t∈m,t∈l)→(splitT m P).length≤m.length*(P.length - 1):=fun m=>by
  induction m with
  |nil=>intro _;exact Nat.zero_le _
  |cons t m ih =>
   intro hm
   have h1:=ih fun u hu=>hm u (by simp [hu])
   have e:splitT (t::m) P=(if validT t=true then cutT t t.from_ P else [])++splitT m P:=rfl
   rw [e,List.length_append,List.length_cons,Nat.succ_mul]
   have h2:(if validT t=true then cutT t t.from_ P else []).length≤P.length - 1:=by
    split
    ·rename_i c
     obtain⟨b1,b2⟩:=bnd_mem (hm t (by simp)) c
     have hv:=validB_lt (show validB t.from_ t.to_=true from c)
     have h3:=cutT_len2 t P t.from_
     have h4:=two_out (q:=fun p=>decide (t.from_<p)&&decide (p<t.to_)) (hb _ b1) (hb _ b2) (by omega) (by simp) (by simp)
     omega
    ·exact Nat.zero_le _
   omega
 exact h l fun _ h=>h
theorem alignRow_len (tr:List Val→Bool) (B:List Tup) (x:Tup):(alignRow tr B x).length≤B.length:=by
 unfold alignRow
 refine Nat.le_trans (List.length_filter_le _ _) ?_
 rw [List.length_map]
 exact List.length_filter_le _ _
theorem alignRaw_len (tr:List Val→Bool) (A B:List Tup):(alignRaw tr A B).length≤A.length*B.length:=by
 unfold alignRaw
 induction A with
 |nil=>exact Nat.zero_le _
 |cons x A ih =>
  rw [List.flatMap_cons,List.length_append,List.length_cons,Nat.succ_mul]
  have:=alignRow_len tr B x
  omega
theorem align_fit {tr:List Val→Bool} {A B:List Tup} (ha:fewT A) (hb:fewT B) : ∀t∈alignRaw tr A B,t.vals.length≤2000∧(∀x∈t.vals,x.s.size≤1048576)∧t.lin.length≤2000:=by
 intro t ht
 unfold alignRaw at ht
 obtain⟨x,hx,ht⟩:=List.mem_flatMap.1 ht
 unfold alignRow at ht
 obtain⟨y,hy,rfl⟩:=List.mem_map.1 (List.mem_filter.1 ht).1
 obtain⟨h1,h2,h3⟩:=ha x hx
 obtain⟨h4,h5,h6⟩:=hb y (List.mem_filter.1 hy).1
 refine⟨?_,fun z hz=> ?_,?_⟩
 ·show (x.vals++y.vals).length≤_
  rw [List.length_append];omega
 ·rcases List.mem_append.1 (show z∈x.vals++y.vals from hz)with hz | hz
  ·exact h2 z hz
  ·exact h5 z hz
 ·show (mergeL x.lin y.lin).length≤_
  have:=merge_len x.lin y.lin
  omega
theorem split_few {l:List Tup} (h:fewT l) (P:List Int):fewT (splitT l P):=by
 intro y hy
 unfold splitT at hy
 obtain⟨t,ht,hy⟩:=List.mem_flatMap.1 hy
 split at hy
 ·have key : ∀(P:List Int) (f:Int),∀y∈cutT t f P,y.vals=t.vals∧y.lin=t.lin:=by
   intro P
   induction P with
   |nil=>intro f y hy;rw [cutT,List.mem_singleton]at hy;subst hy;exact⟨rfl,rfl⟩
   |cons p P ih =>
    intro f y hy
    rw [cutT]at hy
    split at hy
    ·rw [List.mem_singleton]at hy;subst hy;exact⟨rfl,rfl⟩
    split at hy
    ·rcases List.mem_cons.1 hy with rfl | hy
     ·exact⟨rfl,rfl⟩
     ·exact ih p y hy
    ·exact ih f y hy
  obtain⟨e1,e2⟩:=key P _ y hy
  have:=h t ht
  rw [e1,e2]
  exact this
 ·cases hy
theorem zero_slU (w:World):(zeroValue 22).run Tryz.prog w = .ok (.slice none 0 0) w:=by kernel_rfl
noncomputable def aliUpto (tr:List Val→Bool) (A B:List Tup) (k:Nat):List Tup:=(A.take k).flatMap (alignRow tr B)
theorem aliUpto_snoc (tr:List Val→Bool) (A B:List Tup) (k:Nat) (h:k<A.length):aliUpto tr A B (k+1)=aliUpto tr A B k++alignRow tr B A[k]:=by
 unfold aliUpto
 rw [List.take_succ_eq_append_getElem h,List.flatMap_append,List.flatMap_cons,List.flatMap_nil,List.append_nil]
theorem aliUpto_len (tr:List Val→Bool) (A B:List Tup) (k:Nat):(aliUpto tr A B k).length≤A.length*B.length:=by
 have h:=alignRaw_len tr (A.take k) B
 exact Nat.le_trans h (Nat.mul_le_mul_right _ (List.length_take_le' _ _))
def rowUpto (tr:List Val→Bool) (x:Tup) (L:List Tup) (j:Nat):List Tup:=((L.take j).map fun y=>tupOf (pairRow (tupRow x) (tupRow y)) (tupPer x)).filter fun z=>tr z.vals
theorem rowUpto_no (tr:List Val→Bool) (x:Tup) (L:List Tup) (j:Nat) (h:j<L.length) (hn:tr (x.vals++L[j].vals)=false):rowUpto tr x L (j+1)=rowUpto tr x L j:=by
 unfold rowUpto
 rw [List.take_succ_eq_append_getElem h,List.map_append,List.filter_append,List.map_cons,List.map_nil,List.filter_cons,List.filter_nil,if_neg (by show ¬tr (x.vals++L[j].vals)=true;rw [hn];decide),List.append_nil]
theorem rowUpto_yes (tr:List Val→Bool) (x:Tup) (L:List Tup) (j:Nat) (h:j<L.length) (hn:tr (x.vals++L[j].vals)=true):rowUpto tr x L (j+1)=rowUpto tr x L j ++ [⟨x.vals++L[j].vals,x.from_,x.to_,mergeL x.lin L[j].lin⟩]:=by
 unfold rowUpto
 rw [List.take_succ_eq_append_getElem h,List.map_append,List.filter_append,List.map_cons,List.map_nil,List.filter_cons,List.filter_nil,if_pos (show tr (tupOf (pairRow (tupRow x) (tupRow L[j])) (tupPer x)).vals=true from hn)]
 rfl
theorem rowUpto_len (tr:List Val→Bool) (x:Tup) (L:List Tup) (j:Nat):(rowUpto tr x L j).length≤L.length:=by
 unfold rowUpto
 refine Nat.le_trans (List.length_filter_le _ _) ?_
 rw [List.length_map]
 exact List.length_take_le' _ _
theorem rowUpto_all (tr:List Val→Bool) (B:List Tup) (x:Tup) (j:Nat) (h:(ofPer B (tupPer x)).length≤j):rowUpto tr x (ofPer B (tupPer x)) j=alignRow tr B x:=by
 unfold rowUpto alignRow
 rw [List.take_of_length_le h]
 rfl
theorem ofPer_len (B:List Tup) (p:Per):(ofPer B p).length≤B.length:=List.length_filter_le _ _
theorem ofPer_few {B:List Tup} (h:fewT B) (p:Per):fewT (ofPer B p):=fun t ht=>h t (List.mem_filter.1 ht).1
end Go.Proofs.YtkddkbpoefidpaaGreatDoor
