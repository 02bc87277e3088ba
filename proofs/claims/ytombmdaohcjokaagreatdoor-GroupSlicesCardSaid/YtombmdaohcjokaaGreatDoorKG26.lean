/- joined texts of a proof: GSlW, TabH, GenO -/
import Derived.Test.YtombmdaohcjokaaGreatDoorKG25
import Derived.Test.YtombmdaohcjokaaGreatDoorRows
import Derived.Test.YtombmdaohcjokaaGreatDoorKG06
import Derived.ProofKit
import Derived.LaidMore
import Derived.Lib.LaidTab
import Derived.MakeChecks
import Derived.Stop.LaidErr
import Derived.ChangeSame
import Derived.Test.YtombmdaohcjokaaGreatDoorKG14
import Derived.Test.YtombmdaohcjokaaGreatDoorKG24
namespace Go.Proofs.YtombmdaohcjokaaGreatDoor
open Go.RowKit Go.Maps
set_option maxRecDepth 100000 in
set_option maxHeartbeats 4000000 in
theorem GroupSlices_walk (v0:Value) (x:List Num5) (k c tm:Int) {w:World} (s0:SliceOf Rep.num w.cell? v0 x) (hk:(Lit.int .u8 k).wf=true) (hc:(Lit.int .u8 c).wf=true) (ht:(Lit.int .u16 tm).wf=true) (hT:TabW w) (hD:DaysW w) :
  Calls Tryz.prog 13 #[v0,.int .u8 k,.int .u8 c,.int .u16 tm] w fun e w'=>e = .returned (.bool true)∧Ext w w':=by
 have S0:=Lib.hid s0
 obtain⟨p0,q0,rfl,_⟩:=s0.form
 have htm:0≤tm∧tm≤65535:=by simpa [Lit.wf,IntKind.min,IntKind.max,IntKind.signed,IntKind.bits] using ht
 have hcm:0≤c∧c≤255:=by simpa [Lit.wf,IntKind.min,IntKind.max,IntKind.signed,IntKind.bits] using hc
 have hkm:0≤k∧k≤255:=by simpa [Lit.wf,IntKind.min,IntKind.max,IntKind.signed,IntKind.bits] using hk
 have HCM:=Lib.hid hcm
 have HKM:=Lib.hid hkm
 have HT:=Lib.hid (And.intro hT hD)
 clear s0 hk hc ht hT hD hcm hkm
 obtain⟨hT0,hT1⟩:=htm
 obtain⟨dy,hdy⟩ : ∃z,z=tm % 60:=⟨_,rfl⟩
 have eD:tm % 60=dy:=hdy.symm
 have hD0:0≤dy∧dy<60:=by omega
 have HDY:=Lib.hid hD0
 clear hdy
 go_enter Tryz.func13,Tryz.ntmps13
 go_wp2_with fail
 refine(tuples_gen _ x 10 (by decide) _ S0.out).mono ?_
 rintro e w1 ⟨u1,rfl,t1,x1⟩
 have la:=genTups_len x 10
 have fa:=genTups_fit2 x 10
 have fb:=genTups_few x 10
 have hsr:=slice_rowP x 10 dy
 generalize genTups x 10=a at t1 la fa fb hsr
 have hsl:=slice_leS a dy
 obtain⟨r1,k1,rfl,_⟩:=t1.form
 have T1:=Lib.hid (t1.ext (on_sub _ _))
 have X1:=Lib.hid x1
 have HL:=Lib.hid la
 have HFA:=Lib.hid fa
 have HFT:=Lib.hid (show fitTs a from ⟨by omega,fun t ht=>by have:=fb t ht;omega⟩)
 have HSR:=Lib.hid (And.intro hsr hsl)
 obtain⟨na,hna⟩ : ∃z,z=a.length:=⟨_,rfl⟩
 rw [←hna]at T1 ⊢
 have HNA:=Lib.hid hna
 clear t1 x1 la fa fb S0 hsr hsl hna
 go_wp2_with fail
 try rw [eD]
 refine(exprs_any _).mono ?_
 rintro e w2 ⟨u2,rfl,t2,x2⟩
 obtain⟨pe,ce,rfl,_⟩:=t2.form
 have HE:=Lib.hid t2
 replace T1:=Lib.hid (T1.out.ext x2.full)
 have X2:=Lib.hid (X1.out.trans x2)
 clear t2 x2 X1
 go_wp2_with fail
 refine(keysOf_any k _ HKM.out.1 HKM.out.2).mono ?_
 rintro e w3 ⟨u3,rfl,t3,x3⟩
 have hkl:=keysL_len k
 obtain⟨ks,hks⟩ : ∃z,z=keysL k:=⟨_,rfl⟩
 rw [←hks]at t3 hkl
 have HKS0:=Lib.hid hks
 obtain⟨pk,ck,rfl,_⟩:=t3.form
 have HKS:=Lib.hid t3
 have HKL:=Lib.hid hkl
 replace T1:=Lib.hid (T1.out.ext x3.full)
 replace HE:=Lib.hid (HE.out.ext x3.full)
 have X3:=Lib.hid (X2.out.trans x3)
 obtain⟨nk,hnk⟩ : ∃z,z=ks.length:=⟨_,rfl⟩
 rw [←hnk]at HKS ⊢
 clear t3 x3 X2 hkl hks hnk
 go_wp2_with fail
 refine(allAggs_any c _ HCM.out.1 HCM.out.2).mono ?_
 rintro e w4 ⟨u4,rfl,t4,x4⟩
 obtain⟨cc,hcc⟩ : ∃z,z=c % 2:=⟨_,rfl⟩
 have hc2:cc=0∨cc=1:=by omega
 rw [←hcc]at t4
 have HCC:=Lib.hid hcc
 obtain⟨pg,cg,rfl,_⟩:=t4.form
 have HAG:=Lib.hid t4
 have HC2:=Lib.hid hc2
 replace T1:=Lib.hid (T1.out.ext x4.full)
 replace HE:=Lib.hid (HE.out.ext x4.full)
 replace HKS:=Lib.hid (HKS.out.ext x4.full)
 have X4:=Lib.hid (X3.out.trans x4)
 clear t4 x4 X3 hcc hc2
 have hgl:(aggsL cc).length=4:=rfl
 have hel:exC.length=2:=rfl
 rw [hgl]at HAG ⊢
 rw [hel]at HE ⊢
 clear hgl hel
 have HGQ:=Lib.hid (show (gslQ k cc).nodes = [scanR,⟨10,0,0,0,⟨#[]⟩,ks,aggsL cc⟩]∧(gslQ k cc).exprs=exC from ⟨by rw [HKS0.out];rfl,rfl⟩)
 go_wp2_with fail
 obtain⟨bn,hbn⟩ : ∃z,z=w4.heap.size:=⟨_,rfl⟩
 obtain⟨B,hB⟩ : ∃z,z=w4.heap.size+1:=⟨_,rfl⟩
 have n5:SliceOf Rep.node (w4.alloc (.cells #[.int .i64 1,.int .i64 0,.int .i64 0,.int .i64 0,.string ⟨#[114]⟩,.slice none 0 0,.slice none 0 0,.int .i64 10,.int .i64 0,.int .i64 0,.int .i64 0,.string ⟨#[]⟩,.slice pk nk ck,.slice pg 4 cg] 64)).cell? (.slice (some ⟨w4.heap.size,0,none⟩) 2 2) (gslQ k cc).nodes:=by
  rw [HGQ.out.1]
  have x:=((Ext.refl w4).alloc (.cells #[.int .i64 1,.int .i64 0,.int .i64 0,.int .i64 0,.string ⟨#[114]⟩,.slice none 0 0,.slice none 0 0,.int .i64 10,.int .i64 0,.int .i64 0,.int .i64 0,.string ⟨#[]⟩,.slice pk nk ck,.slice pg 4 cg] 64)).full
  exact slice_lit Rep.node w4 [.int .i64 1,.int .i64 0,.int .i64 0,.int .i64 0,.string ⟨#[114]⟩,.slice none 0 0,.slice none 0 0,.int .i64 10,.int .i64 0,.int .i64 0,.int .i64 0,.string ⟨#[]⟩,.slice pk nk ck,.slice pg 4 cg] 64 [[.int .i64 1,.int .i64 0,.int .i64 0,.int .i64 0,.string ⟨#[114]⟩,.slice none 0 0,.slice none 0 0],[.int .i64 10,.int .i64 0,.int .i64 0,.int .i64 0,.string ⟨#[]⟩,.slice pk nk ck,.slice pg 4 cg]] [scanR,⟨10,0,0,0,⟨#[]⟩,ks,aggsL cc⟩] rfl
   ⟨⟨_,_,rfl,SliceOf.nil _ _,SliceOf.nil _ _,⟨⟨by decide,by decide⟩,⟨by decide,by decide⟩,⟨by decide,by decide⟩,⟨by decide,by decide⟩⟩,(show (⟨#[114]⟩:ByteArray).size≤maxLen by decide)⟩,⟨_,_,rfl,HKS.out.ext x,HAG.out.ext x,⟨okI_small (z:=10) (by decide),okI_small (z:=0) (by decide),okI_small (z:=0) (by decide),okI_small (z:=0) (by decide)⟩,(show (⟨#[]⟩:ByteArray).size≤maxLen by decide)⟩,trivial⟩ (by simp [maxLen])
 obtain⟨w5,hw5⟩ : ∃z,z=(w4.alloc (.cells #[.int .i64 1,.int .i64 0,.int .i64 0,.int .i64 0,.string ⟨#[114]⟩,.slice none 0 0,.slice none 0 0,.int .i64 10,.int .i64 0,.int .i64 0,.int .i64 0,.string ⟨#[]⟩,.slice pk nk ck,.slice pg 4 cg] 64)).alloc (.cells #[.slice (some ⟨w4.heap.size,0,none⟩) 2 2,.slice pe 2 ce] 25):=⟨_,rfl⟩
 have x5:Ext w4 w5:=by rw [hw5];exact((Ext.refl _).alloc _).alloc _
 have c0:w5.cell? ⟨B,0,none⟩=some (.slice (some ⟨bn,0,none⟩) 2 2):=by rw [hw5,hB,hbn];go_simp
 have c1:w5.cell? ⟨B,1,none⟩=some (.slice pe 2 ce):=by rw [hw5,hB];go_simp
 have N5:=Lib.hid (show SliceOf Rep.node w5.cell? (.slice (some ⟨bn,0,none⟩) 2 2) (gslQ k cc).nodes from by rw [hw5,hbn];exact n5.ext ((Ext.refl _).alloc _).full)
 rw [←hw5]
 try rw [←hB]
 try rw [←hbn]
 replace T1:=Lib.hid (T1.out.ext x5.full)
 replace HE:=Lib.hid (show SliceOf Rep.expr w5.cell? (.slice pe 2 ce) (gslQ k cc).exprs from HE.out.ext x5.full)
 have X5:=Lib.hid (X4.out.trans x5)
 have e0:=cell_lt c0
 obtain⟨S,hS⟩ : ∃z,z=sortBy cmpRow (sliceRows a dy):=⟨_,rfl⟩
 have HS:=Lib.hid hS
 have HRUN:=Lib.hid (gsl_run k cc HC2.out S (by rw [hS];exact HSR.out.1) (by have h1:=HSR.out.2;have h2:=HL.out;rw [←hS]at h1;omega))
 clear n5 hw5 hB hbn x5 X4 HKS HAG hS
 have hS0:Ext w5 w5.drew∧w5.drew.cell? ⟨B,0,none⟩=some (.slice (some ⟨bn,0,none⟩) 2 2)∧w5.drew.cell? ⟨B,1,none⟩=some (.slice pe 2 ce):=⟨(Ext.refl _).drew,(Ext.refl _).drew.at c0,(Ext.refl _).drew.at c1⟩
 go_region_held3 (fun w'=>Ext w5 w'∧w'.cell? ⟨B,0,none⟩=some (.slice (some ⟨bn,0,none⟩) 2 2)∧w'.cell? ⟨B,1,none⟩=some (.slice pe 2 ce))
  (first |with_reducible assumption | with_reducible exact K8 | with_reducible exact K7 | with_reducible exact K6)
  (first
   |(go_at_call 41;refine(timeslice_day _ a dy _ (T1.out.ext (Ext.refl _).drew.full) HFT.out).mono ?_;rintro e w6 ⟨v6,rfl,s6,x6⟩;rw [←HS.out]at s6;have K6:=keepAw hS0 x6;have S6:=Lib.hid (s6.ext (on_sub _ _)))
   |(go_at_call 25;refine(rowdb_any _ _ S [] _ S6.out (SliceOf.nil _ _)).mono ?_;rintro e w7 ⟨v7,rfl,s7,x7⟩;have K7:=keepAw K6 x7;have S7:=Lib.hid s7)
   |(go_at_call 21;refine(eval_query (gslQ k cc) (dbA S []) _ _ _ _ (N5.out.ext K7.1.full) (HE.out.ext K7.1.full) S7.out (by simp [dbA]) (gsl_fitQ k cc) HRUN.out.2 (HT.out.1.ext (X5.out.trans K7.1))).mono ?_;rintro e w8 ⟨v8,rfl,s8,x8⟩;have K8:=keepAw K7 x8;have S8:=Lib.hid s8)
   |fail)
 clear hS0
 rw [HRUN.out.1]at s8 ⊢
 dsimp only at s8 ⊢
 obtain⟨R,hR⟩ : ∃z,z=sortBy cmpRow (groupP exC (keysL k) (aggsL cc) S):=⟨_,rfl⟩
 rw [←hR]at s8
 have HR:=Lib.hid hR
 obtain⟨p8,q8,rfl,-⟩:=s8.form
 obtain⟨nr,hnr⟩ : ∃z,z=R.length:=⟨_,rfl⟩
 rw [←hnr]at s8 ⊢
 have HNR:=Lib.hid hnr
 have SR:=Lib.hid s8
 have X8:=Lib.hid (X5.out.trans K8.1)
 replace T1:=Lib.hid (T1.out.ext K8.1.full)
 clear s8 hR hnr x6 x7 x8 s6 s7 S6 S7 S8 K6 K7 K8 c0 c1 e0 N5 HE X5 HRUN HGQ
 go_wp2_with fail
 refine(awake_group _ (HT.out.1.ext X8.out) (HT.out.2.ext X8.out)).mono ?_
 rintro e w9 ⟨rfl,x9⟩
 replace T1:=Lib.hid (T1.out.ext x9.full)
 replace SR:=Lib.hid (SR.out.ext x9.full)
 have X9:=Lib.hid (X8.out.trans x9)
 clear x9 X8
 go_wp2_with fail
 refine(exprs_any _).mono ?_
 rintro e w10 ⟨u10,rfl,t10,x10⟩
 obtain⟨pe2,ce2,rfl,_⟩:=t10.form
 have HE:=Lib.hid t10
 replace T1:=Lib.hid (T1.out.ext x10.full)
 replace SR:=Lib.hid (SR.out.ext x10.full)
 have X10:=Lib.hid (X9.out.trans x10)
 clear t10 x10 X9
 go_wp2_with fail
 refine(keysOf_any k _ HKM.out.1 HKM.out.2).mono ?_
 rintro e w11 ⟨u11,rfl,t11,x11⟩
 rw [←HKS0.out]at t11
 obtain⟨pk2,ck2,rfl,_⟩:=t11.form
 have HKS:=Lib.hid t11
 replace T1:=Lib.hid (T1.out.ext x11.full)
 replace SR:=Lib.hid (SR.out.ext x11.full)
 replace HE:=Lib.hid (HE.out.ext x11.full)
 have X11:=Lib.hid (X10.out.trans x11)
 clear t11 x11 X10
 go_wp2_with fail
 refine(allAggs_any c _ HCM.out.1 HCM.out.2).mono ?_
 rintro e w12 ⟨u12,rfl,t12,x12⟩
 rw [←HCC.out]at t12
 obtain⟨pg2,cg2,rfl,_⟩:=t12.form
 have HAG:=Lib.hid t12
 replace T1:=Lib.hid (T1.out.ext x12.full)
 replace SR:=Lib.hid (SR.out.ext x12.full)
 replace HE:=Lib.hid (HE.out.ext x12.full)
 replace HKS:=Lib.hid (HKS.out.ext x12.full)
 have X12:=Lib.hid (X11.out.trans x12)
 clear t12 x12 X11
 go_wp2_with fail
 refine(group_gen _ a _ exC _ ks _ (aggsE exC (aggsL cc)) _ T1.out (by have:=HL.out;omega) HFA.out HE.out exC_fit (by simp [exC]) HKS.out (by have:=HKL.out;omega) ⟨_,_,_,rfl⟩ (rowLaw_gen HE.out (by simp [exC]) HAG.out (by simp [aggsL]) (by have:=HKL.out;omega) (by have:=HL.out;omega) HFA.out) (aggsE_fit exC_fit (by simp [aggsL]) HFA.out) (HT.out.1.ext X12.out) (HT.out.2.ext X12.out)).mono ?_
 rintro e w13 ⟨u13,rfl,t13,x13⟩
 have hgl:=agg_len (projE exC ks) (aggsE exC (aggsL cc)) (decide (ks.length=0)) a (by have:=HL.out;omega)
 have hgf:=agg_fit (projE exC ks) (aggsE exC (aggsL cc)) (decide (ks.length=0)) a dy (by have:=HL.out;omega) HFA.out (aggsE_fit exC_fit (by simp [aggsL]) HFA.out) (fun vs=>by rw [projE_len];have:=HKL.out;omega)
 have hgs:=grp_slice exC ks (aggsL cc) a dy HDY.out
 rw [HKS0.out,←HS.out,←HR.out,←HKS0.out]at hgs
 obtain⟨g,hg⟩ : ∃g,g=aggT (projE exC ks) (aggsE exC (aggsL cc)) (decide (ks.length=0)) a:=⟨_,rfl⟩
 rw [←hg]at t13 hgl hgf hgs
 obtain⟨r13,k13,rfl,_⟩:=t13.form
 have T13:=Lib.hid (t13.ext (on_sub _ _))
 have HGL:=Lib.hid hgl
 have HGF:=Lib.hid hgf
 have HGS:=Lib.hid hgs
 obtain⟨ng,hng⟩ : ∃z,z=g.length:=⟨_,rfl⟩
 rw [←hng]at T13 ⊢
 have HNG:=Lib.hid hng
 replace SR:=Lib.hid (SR.out.ext x13.full)
 have X13:=Lib.hid (X12.out.trans x13)
 clear t13 x13 X12 HE HAG HKS hg hgl hgf hgs hng T1
 go_wp2_with fail
 try rw [eD]
 refine(timeslice_gen _ g dy _ T13.out HGL.out HGF.out).mono ?_
 rintro e w14 ⟨u14,rfl,t14,x14⟩
 rw [HGS.out]at t14
 obtain⟨r14,k14,rfl,_⟩:=t14.form
 rw [←HNR.out]at t14 ⊢
 have T14:=Lib.hid (t14.ext (on_sub _ _))
 replace SR:=Lib.hid (SR.out.ext x14.full)
 have X14:=Lib.hid (X13.out.trans x14)
 clear t14 x14 X13 T13
 go_wp2_with fail
 refine(ref_sameRows _ _ R R _ T14.out SR.out).mono ?_
 rintro e w15 ⟨rfl,x15⟩
 have hqq:eqB R R=true:=eqB_iff.2 rfl
 rw [hqq]
 have X15:=Lib.hid (X14.out.trans x15.ext)
 clear x15 X14
 go_wp2_with fail
 go_ret
 exact⟨by simp,X15.out⟩
end Go.Proofs.YtombmdaohcjokaaGreatDoor
namespace Go.Proofs.YtombmdaohcjokaaGreatDoor
open Go.ChangeShapes Go.RowKit
def laid4:List (String×DataW Unit):= [("math/bits.deBruijn32tab",Rows.laid_math_bits_deBruijn32tab),("math/bits.deBruijn64tab",Rows.laid_math_bits_deBruijn64tab),("internal/strconv.uint64pow10",Rows.laid_internal_strconv_uint64pow10),("annalist/group.allDays",Rows.laid_annalist_group_allDays)]
theorem door_met (os:Os) (args:Array Value):laidMetH Tryz.prog laid4 ((World.doorLaid Tryz.prog 29 os).forCall (fun _ _=>0) ⟨#[],args,[]⟩).memory :=
 laidMetH_of_parts3 (fuel:=8) (laidMet_of_run' 8 (by kernel_rfl) (by kernel_rfl)) (by kernel_rfl) (by kernel_rfl)
set_option maxRecDepth 100000 in
theorem days_head {W:World} (h:laidMet Tryz.prog [("annalist/group.allDays",Rows.laid_annalist_group_allDays)] W):DaysW W:=by
 obtain⟨ps,⟨g,t,cs,fuel,p,q,hg,ht,hv,hd,_,_⟩,_⟩:=h
 obtain rfl:=Option.some.inj ((show Tryz.prog.globalNamed "annalist/group.allDays" = some 0 by kernel_rfl).symm.trans hg)
 obtain rfl:=Option.some.inj ((show (Tryz.prog.globals[0]?).map (·.type)=some 123 by kernel_rfl).symm.trans ht)
 obtain⟨y0,y1,n,hx,hl,h0,h1⟩:=trod_struct2 Tryz.underlying123 hd
 obtain⟨z0,c0,rfl,_⟩:=DataW.trod_int Tryz.underlying3 h0
 obtain⟨z1,c1,rfl,_⟩:=DataW.trod_int Tryz.underlying3 h1
 have e0:z0=0∧z1=1000000:=by
  have h:=congrArg Prod.fst hx
  unfold Rows.laid_annalist_group_allDays at h
  simp only [DataW.agg.injEq,List.cons.injEq,DataW.lit.injEq,Lit.int.injEq,true_and,and_true]at h
  exact⟨h.1.symm,h.2.symm⟩
 obtain⟨rfl,rfl⟩:=e0
 have hc:Tryz.prog.cellsOf 123=2:=by kernel_rfl
 rw [hc]at hl
 unfold DaysW
 rw [hv]
 obtain⟨l⟩:=cs
 match l,hl with
 |[a,b],_ =>
  have hci:Tryz.prog.cellsOf 3=1:=by kernel_rfl
  dsimp only at c0 c1
  rw [hci]at c0 c1
  simp at c0 c1
  rw [c0,c1]
set_option maxRecDepth 100000 in
theorem of_laid {W:World} (h:laidMetH Tryz.prog laid4 W):TabW W∧DaysW W:=by
 rw [MakeChecks.laidMetH_plain _ _ _ (by kernel_rfl)]at h
 have h3:=laidMet.tail (laidMet.tail h)
 exact⟨Lib.tabIs_of_head (k:= .u64) (zs:=Lib.pow10Tab) (g:=2) (t:=353) (e:=249) (n:=20) (by kernel_rfl) (by kernel_rfl) Tryz.underlying353 Tryz.underlying249 (by kernel_rfl) (by kernel_rfl) h3,days_head (laidMet.tail h3)⟩
end Go.Proofs.YtombmdaohcjokaaGreatDoor
namespace Go.Proofs.YtombmdaohcjokaaGreatDoor
open Go.RowKit Go.Deep Go.ChangeShapes Go.WideShapes Go.ChangeAt
theorem cellsNum:Tryz.prog.cellsOf 121=5:=by kernel_rfl
theorem cellsU16:Tryz.prog.cellsOf 69=1:=by kernel_rfl
theorem list_five {α:Type} {l:List α} (h:l.length=5) : ∃a b c d e,l = [a,b,c,d,e]:=by
 match l,h with
 |[a,b,c,d,e],_=>exact⟨a,b,c,d,e,rfl⟩
theorem opens_num:Opens Tryz.prog 121 Rep.num:=by
 intro H enc w base spare held fuel cs x h
 obtain⟨ys,m,_,_,hl,hn,hel⟩:=DataW.trod_array Tryz.underlying121 h
 rw [cellsNum]at hl
 obtain⟨c0,c1,c2,c3,c4,rfl⟩:=list_five hl
 have g : ∀i (hi:i<5),DataW.trod enc Tryz.prog w base spare held m 69 (([c0,c1,c2,c3,c4].drop (i*1)).take 1)=some (ys[i]'(by omega)):=fun i hi=>by
  have h1:=hel i hi
  rwa [cellsU16,List.getElem?_eq_getElem (by omega)]at h1
 obtain⟨a0,e0,_,w0⟩:=DataW.trod_int Tryz.underlying69 (g 0 (by decide))
 obtain⟨a1,e1,_,w1⟩:=DataW.trod_int Tryz.underlying69 (g 1 (by decide))
 obtain⟨a2,e2,_,w2⟩:=DataW.trod_int Tryz.underlying69 (g 2 (by decide))
 obtain⟨a3,e3,_,w3⟩:=DataW.trod_int Tryz.underlying69 (g 3 (by decide))
 obtain⟨a4,e4,_,w4⟩:=DataW.trod_int Tryz.underlying69 (g 4 (by decide))
 simp at e0 e1 e2 e3 e4
 subst e0 e1 e2 e3 e4
 exact⟨⟨a0,a1,a2,a3,a4⟩,rfl,bounds_u16 w0,bounds_u16 w1,bounds_u16 w2,bounds_u16 w3,bounds_u16 w4⟩
theorem opens_nums:Opens Tryz.prog 48 (Rep.slice Rep.num):=opens_slice Tryz.underlying48 cellsNum opens_num
end Go.Proofs.YtombmdaohcjokaaGreatDoor
