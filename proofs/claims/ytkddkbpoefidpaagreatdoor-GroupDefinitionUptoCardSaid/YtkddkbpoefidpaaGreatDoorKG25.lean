/- joined texts of a proof: DefG, TabH, Bulk, BulkE, GenO -/
import Derived.Test.YtkddkbpoefidpaaGreatDoorKG13
import Derived.Test.YtkddkbpoefidpaaGreatDoorKG14
import Derived.Test.YtkddkbpoefidpaaGreatDoorKG24
import Derived.Test.YtkddkbpoefidpaaGreatDoorRows
import Derived.Test.YtkddkbpoefidpaaGreatDoorKG06
import Derived.ProofKit
import Derived.LaidMore
import Derived.Lib.LaidTab
import Derived.MakeChecks
import Derived.Stop.LaidErr
import Derived.ChangeSame
import Derived.Test.YtkddkbpoefidpaaGreatDoorKG08
import Derived.Test.YtkddkbpoefidpaaGreatDoorKG11
namespace Go.Proofs.YtkddkbpoefidpaaGreatDoor
open Go.RowKit Go.Maps
theorem ok_aggE {es:List ExprI} (he : ∀x∈es,okVal x.c) {vss:List (List Val)} (h : ∀vs∈vss,∀v∈vs,okVal v) (hl:vss.length≤1048576) (kind arg:Int):okVal (aggE es kind arg vss):=by
 rw [aggE_R]
 refine ok_aggR kind (fun v hv=> ?_) (by rw [List.length_map];exact hl)
 obtain⟨vs,h1,rfl⟩:=List.mem_map.1 hv
 exact ok_evalE he (h vs h1) _
theorem fit_aggE {es:List ExprI} (he : ∀x∈es,fitV x.c) {vss:List (List Val)} (h : ∀vs∈vss,∀v∈vs,v.s.size≤1048576) (kind arg:Int):(aggE es kind arg vss).s.size≤1048576:=by
 have hn : ∀v∈argsG es arg vss,v.s.size≤1048576:=fun v hv=>by
  obtain⟨vs,h1,rfl⟩:=List.mem_map.1 (List.mem_filter.1 hv).1
  exact fit_evalE he (h vs h1) _
 unfold aggE
 split
 ·exact Nat.zero_le _
 split
 ·unfold sumV;split
  ·exact Nat.zero_le _
  ·exact Nat.zero_le _
 split
 ·split
  ·exact Nat.zero_le _
  ·rename_i hne;exact hn _ (pickMin_law hne).1
 split
 ·split
  ·exact Nat.zero_le _
  ·rename_i hne;exact hn _ (pickMax_mem hne)
 split <;> exact Nat.zero_le _
theorem rowLaw_gen {w:World} {ve va:Value} {l:List Tup} {K:Nat} {es:List ExprI} {aggs:List AggI} (he:SliceOf Rep.expr w.cell? ve es) (hel:es.length≤1000) (ha:SliceOf Rep.agg w.cell? va aggs) (hal:aggs.length≤1000) (hK:K≤1000) (hl:l.length≤400) (hf : ∀t∈l,fitVals t.vals∧t.lin.length≤256):RowLaw w ve va l K (aggsE es aggs):=by
 intro G kv key tv ms t w1 hx h0 h1 hk hkl hm hml hmm
 obtain⟨pe,ce,hve,_⟩:=he.form
 have hmv:(memV ms t).length≤400:=by unfold memV;rw [List.length_map];exact Nat.le_trans (List.length_filter_le _ _) (by omega)
 have hok : ∀vs∈memV ms t,∀v∈vs,okVal v:=fun vs hvs=>by
  obtain⟨m,hm1,rfl⟩:=List.mem_map.1 hvs
  exact tups_ok hm m (List.mem_filter.1 hm1).1
 refine row_gen G ve va aggs kv key tv ms t w1 h0 ⟨_,_,_,hve⟩ h1 (ha.ext hx.full) (fun a vss=>aggE es a.kind a.arg vss) (fun a hma=>⟨ok_aggE (expr_oks he) hok (by omega) _ _,fun mv wx hwx hmv2=> ?_⟩) hal hk (by omega) hm (by omega) (fun m hm'=>by obtain⟨u,hu,_,e⟩:=hmm m hm';rw [e];exact(hf u hu).2)
 by_cases hk1:a.kind=1
 ·obtain⟨pm,cm,rfl,_⟩:=hmv2.form
  rw [hk1]
  exact aggregate_count ve pm _ cm a.arg wx
 ·exact aggregate_gen ve es a.kind a.arg mv _ wx (he.ext (hx.trans hwx).full) hel hmv2 (by omega) hk1
theorem aggsE_fit {es:List ExprI} (he : ∀x∈es,fitV x.c) {aggs:List AggI} (hal:aggs.length≤1000) {l:List Tup} (hf : ∀t∈l,fitVals t.vals∧t.lin.length≤256) : ∀vss:List (List Val),(∀vs∈vss,∃u∈l,vs=u.vals)→(aggsE es aggs vss).length≤1000∧ ∀x∈aggsE es aggs vss,x.s.size≤1048576:=fun vss h=>by
 refine⟨by unfold aggsE;rw [List.length_map];exact hal,fun x hx=> ?_⟩
 obtain⟨a,_,rfl⟩:=List.mem_map.1 hx
 exact fit_aggE he (fun vs hvs v hv=>by
  obtain⟨u,hu,rfl⟩:=h vs hvs
  exact(hf u hu).1.2 v hv) _ _
set_option maxRecDepth 100000 in
set_option maxHeartbeats 4000000 in
theorem GroupDefinition_walk (v0:Value) (l:List Tup) (v1:Value) (es:List ExprI) (v2:Value) (keys:List Int) (v3:Value) (aggs:List AggI) {w:World} (s0:SliceOf Rep.tup w.cell? v0 l) (s1:SliceOf Rep.expr w.cell? v1 es) (s2:SliceOf Rep.int w.cell? v2 keys) (s3:SliceOf Rep.agg w.cell? v3 aggs)
  (hsa : ∀t∈l,∀v∈t.vals,v.s.size≤1048576) (hse : ∀x∈es,fitV x.c) (hT:TabW w) (hD:DaysW w) :
  Calls Tryz.prog 3 #[v0,v1,v2,v3] w fun e w'=>e = .returned (.bool true)∧Ext w w':=by
 have T0:=Lib.hid s0
 have HE:=Lib.hid s1
 have HK:=Lib.hid s2
 have HG:=Lib.hid s3
 obtain⟨p0,q0,rfl,_⟩:=s0.form
 obtain⟨p1,q1,rfl,_⟩:=s1.form
 obtain⟨p2,q2,rfl,_⟩:=s2.form
 obtain⟨p3,q3,rfl,_⟩:=s3.form
 obtain⟨nl,hnl⟩ : ∃n,n=l.length:=⟨_,rfl⟩
 obtain⟨ne,hne⟩ : ∃n,n=es.length:=⟨_,rfl⟩
 obtain⟨nk,hnk⟩ : ∃n,n=keys.length:=⟨_,rfl⟩
 obtain⟨ng,hng⟩ : ∃n,n=aggs.length:=⟨_,rfl⟩
 rw [←hnl]at T0 ⊢
 rw [←hne]at HE ⊢
 rw [←hnk]at HK ⊢
 rw [←hng]at HG ⊢
 have HN:=Lib.hid (And.intro hnl (And.intro hne (And.intro hnk hng)))
 have HT:=Lib.hid (And.intro hT hD)
 have HS:=Lib.hid (And.intro hsa hse)
 clear s0 s1 s2 s3 hnl hne hnk hng hT hD hsa hse
 go_enter Tryz.func3,Tryz.ntmps3
 go_wp2_with fail
 refine(fewTups_any _ 9 (by decide) l _ T0.out).mono ?_
 rintro e w1 ⟨r,rfl,hr,rfl⟩
 cases r
 ·clear hr
  go_wp2_with fail
  refine(awake_group _ HT.out.1 HT.out.2).mono ?_
  rintro e w2 ⟨rfl,x2⟩
  have X2:=Lib.hid x2
  clear x2
  go_wp2_with fail
  go_ret
  exact⟨rfl,X2.out⟩
 ·have h1:=hr rfl
  have HFA:=Lib.hid (fewN_T h1 HS.out.1)
  have HLL:=Lib.hid h1.1
  have HFV:=Lib.hid (show ∀t∈l,fitVals t.vals∧t.lin.length≤256 from fun t ht=>⟨⟨by have:=h1.2 t ht;omega,HS.out.1 t ht⟩,by have:=h1.2 t ht;omega⟩)
  clear hr h1
  by_cases he:40<ne
  ·have de:decide ((40:Int)<(ne:Int))=true:=by simp;omega
   clear he
   go_wp2_with fail
   refine(awake_group _ HT.out.1 HT.out.2).mono ?_
   rintro e w2 ⟨rfl,x2⟩
   have X2:=Lib.hid x2
   clear x2
   go_wp2_with fail
   go_ret
   exact⟨rfl,X2.out⟩
  ·have de:decide ((40:Int)<(ne:Int))=false:=by simp;omega
   have He9:=Lib.hid he
   clear he
   by_cases hk:4<nk
   ·have dk:decide ((4:Int)<(nk:Int))=true:=by simp;omega
    clear hk
    go_wp2_with fail
    refine(awake_group _ HT.out.1 HT.out.2).mono ?_
    rintro e w2 ⟨rfl,x2⟩
    have X2:=Lib.hid x2
    clear x2
    go_wp2_with fail
    go_ret
    exact⟨rfl,X2.out⟩
   ·have dk:decide ((4:Int)<(nk:Int))=false:=by simp;omega
    have Hk9:=Lib.hid hk
    clear hk
    by_cases hg:4<ng
    ·have dg:decide ((4:Int)<(ng:Int))=true:=by simp;omega
     clear hg
     go_wp2_with fail
     refine(awake_group _ HT.out.1 HT.out.2).mono ?_
     rintro e w2 ⟨rfl,x2⟩
     have X2:=Lib.hid x2
     clear x2
     go_wp2_with fail
     go_ret
     exact⟨rfl,X2.out⟩
    ·have dg:decide ((4:Int)<(ng:Int))=false:=by simp;omega
     have Hg9:=Lib.hid hg
     clear hg
     have hele:es.length≤40:=by have h1:=He9.out;have h2:=HN.out;omega
     have hkle:keys.length≤4:=by have h1:=Hk9.out;have h2:=HN.out;omega
     have hgle:aggs.length≤4:=by have h1:=Hg9.out;have h2:=HN.out;omega
     have HL:=Lib.hid (And.intro hele (And.intro hkle hgle))
     clear hele hkle hgle He9 Hk9 Hg9
     go_wp2_with fail
     refine(awake_group _ HT.out.1 HT.out.2).mono ?_
     rintro e w4 ⟨rfl,x4⟩
     have X4:=Lib.hid x4
     replace T0:=Lib.hid (T0.out.ext x4.full)
     replace HE:=Lib.hid (HE.out.ext x4.full)
     replace HK:=Lib.hid (HK.out.ext x4.full)
     replace HG:=Lib.hid (HG.out.ext x4.full)
     clear x4
     go_wp2_with fail
     refine(group_gen _ l _ es _ keys _ (aggsE es aggs) _ T0.out (by have:=HLL.out;omega) HFV.out HE.out HS.out.2 (by have:=HL.out;omega) HK.out (by have:=HL.out;omega) ⟨_,_,_,rfl⟩ (rowLaw_gen HE.out (by have:=HL.out;omega) HG.out (by have:=HL.out;omega) (by have:=HL.out;omega) (by have:=HLL.out;omega) HFV.out) (aggsE_fit HS.out.2 (by have:=HL.out;omega) HFV.out) (HT.out.1.ext X4.out) (HT.out.2.ext X4.out)).mono ?_
     rintro e w5 ⟨v5,rfl,t5,x5⟩
     obtain⟨J,hJ⟩ : ∃J,J=aggT (projE es keys) (aggsE es aggs) (decide (keys.length=0)) l:=⟨_,rfl⟩
     rw [←hJ]at t5
     have HJ:=Lib.hid hJ
     obtain⟨p5,q5,rfl,_⟩:=t5.form
     obtain⟨nj,hnj⟩ : ∃n,n=J.length:=⟨_,rfl⟩
     rw [←hnj]at t5 ⊢
     have HNJ:=Lib.hid hnj
     have T5:=Lib.hid (t5.ext (on_sub _ _))
     have X5:=Lib.hid (X4.out.trans x5)
     replace T0:=Lib.hid (T0.out.ext x5.full)
     replace HE:=Lib.hid (HE.out.ext x5.full)
     replace HK:=Lib.hid (HK.out.ext x5.full)
     replace HG:=Lib.hid (HG.out.ext x5.full)
     clear t5 x5 X4 hJ hnj
     go_wp2_with fail
     refine(refAggregate_any _ l _ es _ keys _ aggs _ T0.out HLL.out HE.out (by have:=HL.out;omega) HK.out (by have:=HL.out;omega) HG.out (by have:=HL.out;omega) HFA.out).mono ?_
     rintro e w6 ⟨v6,rfl,t6,x6⟩
     rw [refAgg_group,←HJ.out]at t6
     obtain⟨p6,q6,rfl,_⟩:=t6.form
     rw [←HNJ.out]at t6 ⊢
     have T6:=Lib.hid t6
     have X6:=Lib.hid (X5.out.trans x6)
     replace T5:=Lib.hid (T5.out.ext x6.full)
     clear t6 x6 X5 T0 HE HK HG
     go_wp2_with fail
     refine(same_tuples _ _ J _ T5.out T6.out).mono ?_
     rintro e w8 ⟨rfl,x8⟩
     have X8:=Lib.hid (X6.out.trans x8)
     clear x8 X6
     go_wp2_with fail
     go_ret
     exact⟨by simp,X8.out⟩
end Go.Proofs.YtkddkbpoefidpaaGreatDoor
namespace Go.Proofs.YtkddkbpoefidpaaGreatDoor
open Go.ChangeShapes Go.RowKit
def laid4:List (String×DataW Unit):= [("math/bits.deBruijn32tab",Rows.laid_math_bits_deBruijn32tab),("math/bits.deBruijn64tab",Rows.laid_math_bits_deBruijn64tab),("internal/strconv.uint64pow10",Rows.laid_internal_strconv_uint64pow10),("annalist/group.allDays",Rows.laid_annalist_group_allDays)]
theorem door_met (os:Os) (args:Array Value):laidMetH Tryz.prog laid4 ((World.doorLaid Tryz.prog 29 os).forCall (fun _ _=>0) ⟨#[],args,[]⟩).memory :=
 laidMetH_of_parts3 (fuel:=8) (laidMet_of_run' 8 (by kernel_rfl) (by kernel_rfl)) (by kernel_rfl) (by kernel_rfl)
set_option maxRecDepth 100000 in
theorem days_head {W:World} (h:laidMet Tryz.prog [("annalist/group.allDays",Rows.laid_annalist_group_allDays)] W):DaysW W:=by
 obtain⟨ps,⟨g,t,cs,fuel,p,q,hg,ht,hv,hd,_,_⟩,_⟩:=h
 obtain rfl:=Option.some.inj ((show Tryz.prog.globalNamed "annalist/group.allDays" = some 0 by kernel_rfl).symm.trans hg)
 obtain rfl:=Option.some.inj ((show (Tryz.prog.globals[0]?).map (·.type)=some 94 by kernel_rfl).symm.trans ht)
 obtain⟨y0,y1,n,hx,hl,h0,h1⟩:=trod_struct2 Tryz.underlying94 hd
 obtain⟨z0,c0,rfl,_⟩:=DataW.trod_int Tryz.underlying3 h0
 obtain⟨z1,c1,rfl,_⟩:=DataW.trod_int Tryz.underlying3 h1
 have e0:z0=0∧z1=1000000:=by
  have h:=congrArg Prod.fst hx
  unfold Rows.laid_annalist_group_allDays at h
  simp only [DataW.agg.injEq,List.cons.injEq,DataW.lit.injEq,Lit.int.injEq,true_and,and_true]at h
  exact⟨h.1.symm,h.2.symm⟩
 obtain⟨rfl,rfl⟩:=e0
 have hc:Tryz.prog.cellsOf 94=2:=by kernel_rfl
 rw [hc]at hl
 unfold DaysW
 rw [hv]
 obtain⟨l⟩:=cs
 match l,hl with
 |[a,b],_ =>
  have hci:Tryz.prog.cellsOf 3=1:=by kernel_rfl
  dsimp only at c0 c1
  rw [hci]at c0 c1
  simp at c0 c1
  rw [c0,c1]
set_option maxRecDepth 100000 in
theorem of_laid {W:World} (h:laidMetH Tryz.prog laid4 W):TabW W∧DaysW W:=by
 rw [MakeChecks.laidMetH_plain _ _ _ (by kernel_rfl)]at h
 have h3:=laidMet.tail (laidMet.tail h)
 exact⟨Lib.tabIs_of_head (k:= .u64) (zs:=Lib.pow10Tab) (g:=1) (t:=348) (e:=291) (n:=20) (by kernel_rfl) (by kernel_rfl) Tryz.underlying348 Tryz.underlying291 (by kernel_rfl) (by kernel_rfl) h3,days_head (laidMet.tail h3)⟩
end Go.Proofs.YtkddkbpoefidpaaGreatDoor
namespace Go.Proofs.YtkddkbpoefidpaaGreatDoor
open Go.RowKit Go.Deep Go.ChangeShapes Go.WideShapes Go.ChangeAt
def OpensB {α:Type} (P:Program) (t:TypeId) (R:Rep α) (φ:Nat→α→Prop):Prop :=
 ∀(H:Type) (enc:TypeId×Value→H) (w:World) (base:Nat) (spare:Nat→Bool) (held:Bool) (fuel:Nat) (cs:List Value) (x:DataW H×List MemPlace),
  DataW.trod enc P w base spare held fuel t cs=some x→ ∃y,R.holds w.cell? cs y∧φ (Rows.uptoBulk x.1) y
theorem bulk_part {H:Type} {d:DataW H} {l:List (DataW H)} (h:d∈l):Rows.uptoBulk d≤Rows.uptoBulkAll l:=by
 induction l with
 |nil=>cases h
 |cons x r ih =>
  simp only [Rows.uptoBulkAll]
  cases List.mem_cons.1 h with
  |inl e=>subst e;omega
  |inr e=>have:=ih e;omega
theorem repAll_ofB {α:Type} (R:Rep α) (h:View) (p:Nat→List Value→Prop) (q:α→Prop) (n:Nat) (hp : ∀i,i<n→ ∃cs y,R.holds h cs y∧p i cs∧q y) :
  ∃css ys,css.length=n∧RepAll R h css ys∧(∀i c,css[i]?=some c→p i c)∧ ∀y∈ys,q y:=by
 induction n with
 |zero=>exact⟨[],[],rfl,trivial,(fun i c hc=>by simp at hc),fun y hy=>by cases hy⟩
 |succ n ih =>
  obtain⟨css,ys,h1,h2,h3,h0⟩:=ih fun i hi=>hp i (by omega)
  obtain⟨c,y,h4,h5,h6⟩:=hp n (by omega)
  refine⟨css ++ [c],ys ++ [y],by simp [h1],h2.append (RepAll.one h4),fun i d hd=> ?_,fun z hz=> ?_⟩
  ·by_cases hi:i<css.length
   ·rw [List.getElem?_append_left hi]at hd
    exact h3 i d hd
   ·rw [List.getElem?_append_right (by omega)]at hd
    have:i=n:=by
     have:=(List.getElem?_eq_some_iff.1 hd).1
     simp at this
     omega
    subst this
    rw [h1,Nat.sub_self]at hd
    simp at hd
    subst hd
    exact h5
  ·rcases List.mem_append.1 hz with hz | hz
   ·exact h0 z hz
   ·rw [List.mem_singleton]at hz;subst hz;exact h6
theorem opensB_slice {α:Type} {P:Program} {t e:TypeId} {R:Rep α} {φ:Nat→α→Prop} (hφ : ∀m n y,m≤n→φ m y→φ n y) (ht:P.underlying t=some (.slice e)) (hc:P.cellsOf e=R.size) (hR:OpensB P e R φ):OpensB P t R.slice fun n ys=> ∀y∈ys,φ n y:=by
 intro H enc w base spare held fuel cs x h
 rcases open_slice ht h with ⟨rfl,_⟩ | ⟨a,len,cap,m,n,D,Pl,rfl,hb,hl,hm,hmm,hxe,hx⟩
 ·exact⟨[],⟨_,rfl,SliceOf.nil R _⟩,fun y hy=>by cases hy⟩
 ·have hlm:len≤m:=by rw [hmm];split <;> omega
  have hbulk : ∀i,i<len→Rows.uptoBulk (D i)≤Rows.uptoBulk x.1:=fun i hi=>by
   rw [hxe]
   simp only [Rows.uptoBulk]
   have:=bulk_part (H:=H) (d:=D i) (l:=(List.range len).map D) (List.mem_map.2 ⟨i,List.mem_range.2 hi,rfl⟩)
   omega
  obtain⟨css,ys,h1,h2,h3,h0⟩:=repAll_ofB R w.cell? (fun i cs'=>w.cells? base (a.add (i*P.cellsOf e)) (P.cellsOf e)=some cs') (φ (Rows.uptoBulk x.1)) len fun i hi=>by
   obtain⟨cs',g1,g2⟩:=hx i (by omega)
   obtain⟨y,hy,hq⟩:=hR H enc w base spare held n cs' _ g2
   exact⟨cs',y,hy,g1,hφ _ _ _ (hbulk i hi) hq⟩
  have hlen:ys.length=len:=by rw [←h2.length,h1]
  refine⟨ys,⟨_,rfl,css,h2,?_⟩,h0⟩
  rw [hlen]
  refine .inr ⟨a,cap,rfl,hl,hm,?_⟩
  have hcell : ∀j u,css.flatten[j]?=some u→w.cell? (a.add j)=some u:=by
   intro j u hj
   obtain⟨i,r,c,g1,g2,g3⟩:=flat_at (repAll_len h2) j u hj
   obtain⟨_,g5,g6⟩:=World.cells?_some (h3 i c g1)
   have hr:r<P.cellsOf e:=by rw [←g5];exact(List.getElem?_eq_some_iff.1 g2).1
   have:=g6 r hr
   rw [g2,Addr.add_add,hc,←g3]at this
   exact this
  by_cases hne:css.flatten = []
  ·exact .inl hne
  ·right
   obtain⟨u,us,hu⟩:=List.exists_cons_of_ne_nil hne
   have h0:=hcell 0 u (by rw [hu];rfl)
   obtain⟨b,o,sp⟩:=a
   have hsp:sp=none:=by
    cases sp with
    |none=>rfl
    |some s=>simp [World.cell?,Addr.add]at h0;split at h0 <;> simp at h0
   subst hsp
   exact⟨b,o,rfl,fun j u hj=>by have:=hcell j u hj;rwa [add_lit]at this⟩
theorem opensB_val:OpensB Tryz.prog 73 Rep.val fun n v=>v.s.size≤n:=by
 intro H enc w base spare held fuel cs x h
 obtain⟨y0,y1,y2,n,hxe,hl,h0,h1,h2⟩:=trod_struct3 Tryz.underlying73 h
 rw [cellsVal]at hl
 obtain⟨c0,c1,c2,rfl⟩:=list_three hl
 simp [cellsInt,cellsInt64,cellsStr]at h0 h1 h2
 obtain⟨a0,e0,_,w0⟩:=DataW.trod_int Tryz.underlying3 h0
 obtain⟨a1,e1,_,w1⟩:=DataW.trod_int Tryz.underlying2 h1
 obtain⟨a2,e2,ey,w2⟩:=DataW.trod_string Tryz.underlying9 h2
 simp at e0 e1 e2
 subst e0 e1 e2
 refine⟨⟨a0,a1,a2⟩,⟨rfl,wf_i64 w0,wf_i64 w1,w2⟩,?_⟩
 rw [hxe,ey]
 simp only [Rows.uptoBulk,Rows.uptoBulkAll]
 have:a2.data.toList.length=a2.size:=by rw [Array.length_toList];rfl
 omega
theorem opensB_vals:OpensB Tryz.prog 68 (Rep.slice Rep.val) fun n vs=> ∀v∈vs,v.s.size≤n:=opensB_slice (fun _ _ _ h k=>Nat.le_trans k h) Tryz.underlying68 cellsVal opensB_val
theorem opensB_tup:OpensB Tryz.prog 96 Rep.tup fun n t=> ∀v∈t.vals,v.s.size≤n:=by
 intro H enc w base spare held fuel cs x h
 obtain⟨y0,y1,y2,n,hxe,hl,h0,h1,h2⟩:=trod_struct3 Tryz.underlying96 h
 rw [cellsTup]at hl
 obtain⟨c0,c1,c2,c3,rfl⟩:=list_fourT hl
 simp [cellsVals,cellsPer,cellsInts]at h0 h1 h2
 obtain⟨xs,⟨v,e0,s0⟩,hb⟩:=opensB_vals H enc w base spare held n _ _ h0
 obtain⟨z0,z1,m,_,_,g0,g1⟩:=trod_struct2 Tryz.underlying94 h1
 simp [cellsInt]at g0 g1
 obtain⟨a0,e1,_,w0⟩:=DataW.trod_int Tryz.underlying3 g0
 obtain⟨a1,e2,_,w1⟩:=DataW.trod_int Tryz.underlying3 g1
 obtain⟨ys,u,e3,s1⟩:=opens_ints H enc w base spare held n _ _ h2
 simp at e0 e1 e2 e3
 subst e0 e1 e2 e3
 refine⟨⟨xs,a0,a1,ys⟩,⟨_,_,rfl,s0,s1,wf_i64 w0,wf_i64 w1⟩,fun v hv=>Nat.le_trans (hb v hv) ?_⟩
 rw [hxe]
 simp only [Rows.uptoBulk,Rows.uptoBulkAll]
 omega
theorem opensB_tups:OpensB Tryz.prog 22 (Rep.slice Rep.tup) fun n ts=> ∀t∈ts,∀v∈t.vals,v.s.size≤n:=opensB_slice (fun _ _ _ h k v hv=>Nat.le_trans (k v hv) h) Tryz.underlying22 cellsTup opensB_tup
theorem open_argB {α:Type} {P:Program} {t e:TypeId} {R:Rep α} {φ:Nat→List α→Prop} (ht:P.underlying t=some (.slice e)) (hR:OpensB P t (Rep.slice R) φ) {H:Type} {enc:TypeId×Value→H} {w:World} {base:Nat} {spare:Nat→Bool} {held:Bool} {v:Value} {d:DataW H} {ps:List MemPlace} {r:Reach} {b0:Nat}
  (hv:Value.okWide P w r b0 t v) (h:DataW.Trod enc P w base spare held t v d ps) : ∃xs,SliceOf R w.cell? v xs∧φ (Rows.uptoBulk d) xs:=by
 obtain⟨a,n,c,rfl⟩:=okWide_slice ht hv
 obtain⟨m,hm⟩:=h
 obtain⟨xs,⟨v',e,hs⟩,hb⟩:=hR H enc w base spare held m _ _ hm
 simp [Value.cells]at e
 subst e
 exact⟨xs,hs,hb⟩
end Go.Proofs.YtkddkbpoefidpaaGreatDoor
namespace Go.Proofs.YtkddkbpoefidpaaGreatDoor
open Go.RowKit Go.Deep Go.ChangeShapes Go.WideShapes Go.ChangeAt
theorem cellsAgg:Tryz.prog.cellsOf 98=2:=by kernel_rfl
theorem opens_agg:Opens Tryz.prog 98 Rep.agg:=by
 intro H enc w base spare held fuel cs x h
 obtain⟨z0,z1,m,_,hl,g0,g1⟩:=trod_struct2 Tryz.underlying98 h
 rw [cellsAgg]at hl
 obtain⟨c0,c1,rfl⟩:=two_of hl
 simp [cellsInt]at g0 g1
 obtain⟨a0,e1,_,w0⟩:=DataW.trod_int Tryz.underlying3 g0
 obtain⟨a1,e2,_,w1⟩:=DataW.trod_int Tryz.underlying3 g1
 simp at e1 e2
 subst e1 e2
 exact⟨⟨a0,a1⟩,rfl,wf_i64 w0,wf_i64 w1⟩
theorem opens_aggs:Opens Tryz.prog 25 (Rep.slice Rep.agg):=opens_slice Tryz.underlying25 cellsAgg opens_agg
theorem opensB_expr:OpensB Tryz.prog 77 Rep.expr fun n x=>x.c.s.size≤n:=by
 intro H enc w base spare held fuel cs x h
 obtain⟨ys,n,_,hx,hl,hlen,hf⟩:=DataW.trod_struct Tryz.underlying77 h
 rw [cellsExpr]at hl
 obtain⟨c0,c1,c2,c3,c4,c5,c6,rfl⟩:=list_seven hl
 match ys,hlen with
 |[y0,y1,y2,y3,y4],_ =>
  have h0:=hf 0 _ rfl
  have h1:=hf 1 _ rfl
  have h2:=hf 2 _ rfl
  have h3:=hf 3 _ rfl
  have h4:=hf 4 _ rfl
  simp [cellsInt,cellsVal]at h0 h1 h2 h3 h4
  obtain⟨a0,e0,_,w0⟩:=DataW.trod_int Tryz.underlying3 h0
  obtain⟨a1,e1,_,w1⟩:=DataW.trod_int Tryz.underlying3 h1
  obtain⟨a2,e2,_,w2⟩:=DataW.trod_int Tryz.underlying3 h2
  obtain⟨a3,e3,_,w3⟩:=DataW.trod_int Tryz.underlying3 h3
  obtain⟨⟨vk,vn,vs⟩,⟨e4,ho⟩,hb⟩:=opensB_val H enc w base spare held n _ _ h4
  simp at e0 e1 e2 e3 e4
  obtain⟨rfl,rfl,rfl⟩:=e4
  subst e0 e1 e2 e3
  refine⟨⟨a0,a1,a2,a3,⟨vk,vn,vs⟩⟩,⟨rfl,⟨wf_i64 w0,wf_i64 w1,wf_i64 w2,wf_i64 w3⟩,ho⟩,Nat.le_trans hb ?_⟩
  rw [hx]
  simp only [Rows.uptoBulk,Rows.uptoBulkAll,List.map_cons]
  omega
theorem opensB_exprs:OpensB Tryz.prog 23 (Rep.slice Rep.expr) fun n xs=> ∀x∈xs,x.c.s.size≤n:=opensB_slice (fun _ _ _ h k=>Nat.le_trans k h) Tryz.underlying23 cellsExpr opensB_expr
end Go.Proofs.YtkddkbpoefidpaaGreatDoor
namespace Go.Proofs.YtkddkbpoefidpaaGreatDoor
open Go.RowKit Go.Deep Go.ChangeShapes Go.WideShapes Go.ChangeAt
end Go.Proofs.YtkddkbpoefidpaaGreatDoor
