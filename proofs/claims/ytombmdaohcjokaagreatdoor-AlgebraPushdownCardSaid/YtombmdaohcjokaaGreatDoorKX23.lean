/- joined texts of a proof: PusW, Tab3, GenO, Arr4 -/
import Derived.Test.YtombmdaohcjokaaGreatDoorKX22
import Derived.Test.YtombmdaohcjokaaGreatDoorKX21
import Derived.Test.YtombmdaohcjokaaGreatDoorRows
import Derived.Test.YtombmdaohcjokaaGreatDoorKX04
import Derived.ProofKit
import Derived.LaidMore
import Derived.Lib.LaidTab
import Derived.MakeChecks
import Derived.Stop.LaidErr
import Derived.ChangeSame
import Derived.Test.YtombmdaohcjokaaGreatDoorKX10
namespace Go.Proofs.YtombmdaohcjokaaGreatDoor
open Go.RowKit
theorem op_lit2 (w:World) (k k':Int) (a b a' b':Nat) (hk:okI k) (hk':okI k') (ha:a≤1000) (hb:b≤1000) (ha':a'≤1000) (hb':b'≤1000):SliceOf Rep.node (w.alloc (.cells #[.int .i64 k,.int .i64 (a:Int),.int .i64 (b:Int),.int .i64 0,.string ⟨#[]⟩,.slice none 0 0,.slice none 0 0,.int .i64 k',.int .i64 (a':Int),.int .i64 (b':Int),.int .i64 0,.string ⟨#[]⟩,.slice none 0 0,.slice none 0 0] 64)).cell? (.slice (some ⟨w.heap.size,0,none⟩) 2 2) [opN k a b,opN k' a' b'] :=
 slice_lit Rep.node w [.int .i64 k,.int .i64 (a:Int),.int .i64 (b:Int),.int .i64 0,.string ⟨#[]⟩,.slice none 0 0,.slice none 0 0,.int .i64 k',.int .i64 (a':Int),.int .i64 (b':Int),.int .i64 0,.string ⟨#[]⟩,.slice none 0 0,.slice none 0 0] 64 [[.int .i64 k,.int .i64 (a:Int),.int .i64 (b:Int),.int .i64 0,.string ⟨#[]⟩,.slice none 0 0,.slice none 0 0],[.int .i64 k',.int .i64 (a':Int),.int .i64 (b':Int),.int .i64 0,.string ⟨#[]⟩,.slice none 0 0,.slice none 0 0]] [opN k a b,opN k' a' b'] rfl ⟨op_holds _ k a b hk ha hb,op_holds _ k' a' b' hk' ha' hb',trivial⟩ (by simp [maxLen])
theorem op_lit3 (w:World) (k k' k'':Int) (a b a' b' a'' b'':Nat) (hk:okI k) (hk':okI k') (hk'':okI k'') (ha:a≤1000) (hb:b≤1000) (ha':a'≤1000) (hb':b'≤1000) (ha'':a''≤1000) (hb'':b''≤1000):SliceOf Rep.node (w.alloc (.cells #[.int .i64 k,.int .i64 (a:Int),.int .i64 (b:Int),.int .i64 0,.string ⟨#[]⟩,.slice none 0 0,.slice none 0 0,.int .i64 k',.int .i64 (a':Int),.int .i64 (b':Int),.int .i64 0,.string ⟨#[]⟩,.slice none 0 0,.slice none 0 0,.int .i64 k'',.int .i64 (a'':Int),.int .i64 (b'':Int),.int .i64 0,.string ⟨#[]⟩,.slice none 0 0,.slice none 0 0] 64)).cell? (.slice (some ⟨w.heap.size,0,none⟩) 3 3) [opN k a b,opN k' a' b',opN k'' a'' b''] :=
 slice_lit Rep.node w [.int .i64 k,.int .i64 (a:Int),.int .i64 (b:Int),.int .i64 0,.string ⟨#[]⟩,.slice none 0 0,.slice none 0 0,.int .i64 k',.int .i64 (a':Int),.int .i64 (b':Int),.int .i64 0,.string ⟨#[]⟩,.slice none 0 0,.slice none 0 0,.int .i64 k'',.int .i64 (a'':Int),.int .i64 (b'':Int),.int .i64 0,.string ⟨#[]⟩,.slice none 0 0,.slice none 0 0] 64 [[.int .i64 k,.int .i64 (a:Int),.int .i64 (b:Int),.int .i64 0,.string ⟨#[]⟩,.slice none 0 0,.slice none 0 0],[.int .i64 k',.int .i64 (a':Int),.int .i64 (b':Int),.int .i64 0,.string ⟨#[]⟩,.slice none 0 0,.slice none 0 0],[.int .i64 k'',.int .i64 (a'':Int),.int .i64 (b'':Int),.int .i64 0,.string ⟨#[]⟩,.slice none 0 0,.slice none 0 0]] [opN k a b,opN k' a' b',opN k'' a'' b''] rfl ⟨op_holds _ k a b hk ha hb,op_holds _ k' a' b' hk' ha' hb',op_holds _ k'' a'' b'' hk'' ha'' hb'',trivial⟩ (by simp [maxLen])
theorem no_surplus (a b:List Row) (h : ∀v,mult v a=mult v b):surpA b [] (sortBy cmpRow a) = []:=(surp_nil a b).2 fun v=>Nat.le_of_eq (h v)
theorem push_facts (tr:List Val→Bool) (k:Int) (x y ra rb:List Row) (ha:ra=sortBy cmpRow ((opP k x y).filter fun r=>tr r.vals)) (hb:rb=sortBy cmpRow (opP k (x.filter fun r=>tr r.vals) (y.filter fun r=>tr r.vals))) (hl:(opP k x y).length≤16) (hl2:(opP k (x.filter fun r=>tr r.vals) (y.filter fun r=>tr r.vals)).length≤16) :
  surpA rb [] (sortBy cmpRow ra) = []∧surpA ra [] (sortBy cmpRow rb) = []∧(k=6→ra=rb)∧ra.length≤16∧rb.length≤16:=by
 have pa:=sortBy_perm cmpRow ((opP k x y).filter fun r=>tr r.vals)
 have pb:=sortBy_perm cmpRow (opP k (x.filter fun r=>tr r.vals) (y.filter fun r=>tr r.vals))
 rw [←ha]at pa
 rw [←hb]at pb
 have hm : ∀v,mult v ra=mult v rb:=fun v=>by rw [mult_perm v pa,mult_perm v pb];exact push_law tr k x y v
 refine⟨no_surplus ra rb hm,no_surplus rb ra fun v=>(hm v).symm,fun e=> ?_,?_,?_⟩
 ·subst e
  rw [ha,hb,push_union]
 ·rw [pa.length_eq]
  exact Nat.le_trans (List.length_filter_le _ _) hl
 ·rw [pb.length_eq]
  exact hl2
theorem eval_fitR {q:QueryI} {db:List TabI} {R:List Row} (hf:FitRun q db) (he:evalQ q db=(R,0)) : ∀r∈R,fitE r:=by
 intro r hr
 have h1:=congrArg Prod.fst he
 unfold evalQ at h1
 split at h1
 ·dsimp only at h1;rw [←h1]at hr;cases hr
 split at h1
 ·dsimp only at h1;rw [←h1]at hr;cases hr
 ·rename_i c1 c2
  dsimp only at h1
  rw [←h1]at hr
  have h:=(sortBy_perm _ _).mem_iff.1 hr
  have hne:(evalUpto q db (columnsQ q (db.map TabI.typ)).1 q.nodes.length).1≠ []:=fun e=>by rw [e]at h;cases h
  refine hf q.nodes.length (Nat.le_refl _) _ ?_ r h
  rw [List.getLastD_eq_getLast?,List.getLast?_eq_some_getLast hne,Option.getD_some]
  exact List.getLast_mem hne
theorem fitE_rows {R:List Row} (h : ∀r∈R,fitE r) (hl:R.length≤1000):fitRows R:=⟨by show _≤_;omega,fun r hr=>by have:=h r hr;exact⟨by have:=this.1;omega,by have:=this.2.2;omega⟩⟩
set_option maxRecDepth 100000 in
set_option maxHeartbeats 4000000 in
theorem AlgebraPushdown_walk (v0:Value) (x:List Num5) (v1:Value) (y:List Num5) (x0 x1 x2 x3 op:Int) {w:World} (s0:SliceOf Rep.num w.cell? v0 x) (s1:SliceOf Rep.num w.cell? v1 y)
  (h0:0≤x0∧x0≤65535) (h1:0≤x1∧x1≤65535) (h2:0≤x2∧x2≤65535) (h3:0≤x3∧x3≤65535) (hop:(Lit.int .u8 op).wf=true) (hT:TabW w) :
  Calls Tryz.prog 11 #[v0,v1,.agg #[.int .u16 x0,.int .u16 x1,.int .u16 x2,.int .u16 x3],.int .u8 op] w fun e w'=>e = .returned (.bool true)∧Ext w w':=by
 have hop0:0≤op∧op≤255:=by simpa [Lit.wf,IntKind.min,IntKind.max,IntKind.signed,IntKind.bits] using hop
 obtain⟨m,hm,hm3⟩ : ∃m:Nat,op % 3=(m:Int)∧m<3:=⟨(op % 3).toNat,by omega,by omega⟩
 have S0:=Lib.hid s0
 have S1:=Lib.hid s1
 obtain⟨p0,q0,rfl,_⟩:=s0.form
 obtain⟨p1,q1,rfl,_⟩:=s1.form
 have HT:=Lib.hid hT
 have HX:=Lib.hid (And.intro h0 (And.intro h1 (And.intro h2 h3)))
 obtain⟨k,hk⟩ : ∃k:Int,k=6+m:=⟨_,rfl⟩
 have HK:=Lib.hid (show k=6∨k=7∨k=8 from by omega)
 have HK6:=Lib.hid hk
 have hcell:((w.alloc (.cells #[.int .u16 x0,.int .u16 x1,.int .u16 x2,.int .u16 x3] 70)).alloc (.cells #[.int .i64 6,.int .i64 7,.int .i64 8] 3)).cell? ⟨w.heap.size+1,m,none⟩=some (.int .i64 k):=by
  rw [hk]
  match m,hm3 with
  |0,_=>go_simp
  |1,_=>go_simp
  |2,_=>go_simp
 clear s0 s1 hT h0 h1 h2 h3 hop hk
 go_enter Tryz.func11,Tryz.ntmps11
 go_wp2_with fail
 have hbx:((w.alloc (.cells #[.int .u16 x0,.int .u16 x1,.int .u16 x2,.int .u16 x3] 70)).alloc (.cells #[.int .i64 6,.int .i64 7,.int .i64 8] 3)).cell? ⟨w.heap.size,0,none⟩=some (.int .u16 x0)∧((w.alloc (.cells #[.int .u16 x0,.int .u16 x1,.int .u16 x2,.int .u16 x3] 70)).alloc (.cells #[.int .i64 6,.int .i64 7,.int .i64 8] 3)).cell? ⟨w.heap.size,1,none⟩=some (.int .u16 x1)∧((w.alloc (.cells #[.int .u16 x0,.int .u16 x1,.int .u16 x2,.int .u16 x3] 70)).alloc (.cells #[.int .i64 6,.int .i64 7,.int .i64 8] 3)).cell? ⟨w.heap.size,2,none⟩=some (.int .u16 x2)∧((w.alloc (.cells #[.int .u16 x0,.int .u16 x1,.int .u16 x2,.int .u16 x3] 70)).alloc (.cells #[.int .i64 6,.int .i64 7,.int .i64 8] 3)).cell? ⟨w.heap.size,3,none⟩=some (.int .u16 x3):=⟨(by go_simp),(by go_simp),(by go_simp),(by go_simp)⟩
 have hxw:Ext w ((w.alloc (.cells #[.int .u16 x0,.int .u16 x1,.int .u16 x2,.int .u16 x3] 70)).alloc (.cells #[.int .i64 6,.int .i64 7,.int .i64 8] 3)):=((Ext.refl w).alloc _).alloc _
 generalize ((w.alloc (.cells #[.int .u16 x0,.int .u16 x1,.int .u16 x2,.int .u16 x3] 70)).alloc (.cells #[.int .i64 6,.int .i64 7,.int .i64 8] 3))=W0 at hbx hxw hcell ⊢
 obtain⟨bx,hbxe⟩ : ∃z,z=w.heap.size:=⟨_,rfl⟩
 rw [←hbxe]at hbx
 try rw [←hbxe]
 have HBX:=Lib.hid hbx
 have X0:=Lib.hid hxw
 clear hbx hxw hcell hbxe hm hm3
 refine(rows_gen _ x 8 (by decide) _ (S0.out.ext X0.out.full)).mono ?_
 rintro e w1 ⟨u1,rfl,t1,xq1⟩
 have la:=genRows_len x 8
 have ra:=gen_rowP x 8
 generalize genRows x 8=a at t1 la ra
 obtain⟨pa,ca,rfl,-⟩:=t1.form
 have SA:=Lib.hid t1
 have X1:=Lib.hid (X0.out.trans xq1)
 have XB:=Lib.hid xq1
 have HA:=Lib.hid (And.intro la ra)
 obtain⟨na,hna⟩ : ∃z,z=a.length:=⟨_,rfl⟩
 rw [←hna]at SA ⊢
 clear t1 xq1 la ra S0 hna X0
 go_wp2_with fail
 refine(rows_gen _ y 8 (by decide) _ (S1.out.ext X1.out.full)).mono ?_
 rintro e w2 ⟨u2,rfl,t2,xq2⟩
 have lb:=genRows_len y 8
 have rb:=gen_rowP y 8
 generalize genRows y 8=b at t2 lb rb
 obtain⟨pb,cb,rfl,-⟩:=t2.form
 have SB:=Lib.hid t2
 replace SA:=Lib.hid (SA.out.ext xq2.full)
 have X2:=Lib.hid (X1.out.trans xq2)
 replace XB:=Lib.hid (XB.out.trans xq2)
 have HB:=Lib.hid (And.intro lb rb)
 obtain⟨nb,hnb⟩ : ∃z,z=b.length:=⟨_,rfl⟩
 rw [←hnb]at SB ⊢
 clear t2 xq2 lb rb S1 X1 hnb
 go_wp2_with fail
 refine(rowdb_any _ _ a b _ SA.out SB.out).mono ?_
 rintro e w3 ⟨u3,rfl,t3,xq3⟩
 obtain⟨r3,k3,rfl,_⟩:=t3.form
 have hdl:(dbA a b).length=2:=rfl
 rw [hdl]at t3 ⊢
 have DB:=Lib.hid t3
 have X3:=Lib.hid (X2.out.trans xq3)
 replace XB:=Lib.hid (XB.out.trans xq3)
 have HRS:=Lib.hid (run_opSel x0 x1 x2 x3 k HK.out a b HA.out.2 HB.out.2 (by have:=HA.out.1;omega) (by have:=HB.out.1;omega))
 have HRP:=Lib.hid (run_selOp x0 x1 x2 x3 k HK.out a b HA.out.2 HB.out.2 (by have:=HA.out.1;omega) (by have:=HB.out.1;omega))
 have b0:=XB.out.at HBX.out.1
 have b1:=XB.out.at HBX.out.2.1
 have b2:=XB.out.at HBX.out.2.2.1
 have b3:=XB.out.at HBX.out.2.2.2
 have e0:=cell_lt b0
 have hki:okI k:=okI_small (by rcases HK.out with h | h | h <;> omega)
 have HKI:=Lib.hid hki
 clear t3 xq3 X2 hdl SA SB hki
 go_wp2_with fail
 have ys:=(Ext.refl w3).alloc (.cells #[.int .i64 k,.int .i64 0,.int .i64 1,.int .i64 0,.string ⟨#[]⟩,.slice none 0 0,.slice none 0 0,.int .i64 2,.int .i64 2,.int .i64 0,.int .i64 0,.string ⟨#[]⟩,.slice none 0 0,.slice none 0 0] 64)
 refine(nodes_any _ [opN k 0 1,opN 2 2 0] x0 x1 x2 x3 _ (op_lit2 w3 k 2 0 1 2 0 HKI.out (okI_small (z:=2) (by decide)) (by decide) (by decide) (by decide) (by decide)) (by simp) HX.out.1 HX.out.2.1 HX.out.2.2.1 HX.out.2.2.2).mono ?_
 rintro e wns ⟨vns,ves,rfl,sns,ses,xns⟩
 have SNs:=Lib.hid sns
 have SEs:=Lib.hid ses
 have Xsn:=Lib.hid (ys.trans xns)
 clear sns ses xns ys
 go_wp2_with fail
 refine(eval_query (nodesQ x0 x1 x2 x3 [opN k 0 1,opN 2 2 0]) (dbA a b) _ _ _ _ SNs.out SEs.out (DB.out.ext Xsn.out.full) (by simp [dbA]) (fitQ_nodes x0 x1 x2 x3 _ (by simp [opN])) (HRS.out).2 (HT.out.ext (X3.out.trans Xsn.out))).mono ?_
 rintro e w4 ⟨urs,rfl,trs,xrs⟩
 rw [(HRS.out).1]at trs ⊢
 dsimp only at trs ⊢
 obtain⟨RA,hRA⟩ : ∃z,z=sortBy cmpRow ((opP k a b).filter fun r=>trE (predE [1,2] x0 x1 x2 x3) (predI [1,2] x0 x1 x2 x3) r.vals):=⟨_,rfl⟩
 rw [←hRA]at trs
 have HRA:=Lib.hid hRA
 obtain⟨pr4,cr4,rfl,-⟩:=trs.form
 obtain⟨nr4,hnr4⟩ : ∃z,z=RA.length:=⟨_,rfl⟩
 rw [←hnr4]at trs ⊢
 have HN4:=Lib.hid hnr4
 have SR:=Lib.hid trs
 have xs4:=Xsn.out.trans xrs
 have X4:=Lib.hid (X3.out.trans xs4)
 replace DB:=Lib.hid (DB.out.ext xs4.full)
 replace b0:=xs4.at b0
 replace b1:=xs4.at b1
 replace b2:=xs4.at b2
 replace b3:=xs4.at b3
 replace e0:=cell_lt b0
 clear trs xrs hRA hnr4 xs4 SNs SEs Xsn X3
 go_wp2_with fail
 have yq:=(Ext.refl w4).alloc (.cells #[.int .i64 2,.int .i64 0,.int .i64 0,.int .i64 0,.string ⟨#[]⟩,.slice none 0 0,.slice none 0 0,.int .i64 2,.int .i64 1,.int .i64 0,.int .i64 0,.string ⟨#[]⟩,.slice none 0 0,.slice none 0 0,.int .i64 k,.int .i64 2,.int .i64 3,.int .i64 0,.string ⟨#[]⟩,.slice none 0 0,.slice none 0 0] 64)
 refine(nodes_any _ [opN 2 0 0,opN 2 1 0,opN k 2 3] x0 x1 x2 x3 _ (op_lit3 w4 2 2 k 0 0 1 0 2 3 (okI_small (z:=2) (by decide)) (okI_small (z:=2) (by decide)) HKI.out (by decide) (by decide) (by decide) (by decide) (by decide) (by decide)) (by simp) HX.out.1 HX.out.2.1 HX.out.2.2.1 HX.out.2.2.2).mono ?_
 rintro e wnq ⟨vnq,veq,rfl,snq,seq,xnq⟩
 have SNq:=Lib.hid snq
 have SEq:=Lib.hid seq
 have Xqn:=Lib.hid (yq.trans xnq)
 clear snq seq xnq yq
 go_wp2_with fail
 refine(eval_query (nodesQ x0 x1 x2 x3 [opN 2 0 0,opN 2 1 0,opN k 2 3]) (dbA a b) _ _ _ _ SNq.out SEq.out (DB.out.ext Xqn.out.full) (by simp [dbA]) (fitQ_nodes x0 x1 x2 x3 _ (by simp [opN])) (HRP.out).2 (HT.out.ext (X4.out.trans Xqn.out))).mono ?_
 rintro e w5 ⟨urq,rfl,trq,xrq⟩
 rw [(HRP.out).1]at trq ⊢
 dsimp only at trq ⊢
 obtain⟨RB,hRB⟩ : ∃z,z=sortBy cmpRow (opP k (a.filter fun r=>trE (predE [1,2] x0 x1 x2 x3) (predI [1,2] x0 x1 x2 x3) r.vals) (b.filter fun r=>trE (predE [1,2] x0 x1 x2 x3) (predI [1,2] x0 x1 x2 x3) r.vals)):=⟨_,rfl⟩
 rw [←hRB]at trq
 have HF:=Lib.hid (push_facts (trE (predE [1,2] x0 x1 x2 x3) (predI [1,2] x0 x1 x2 x3)) k a b RA RB HRA.out hRB (by have h1:=opP_len k HK.out a b;have h2:=HA.out.1;have h3:=HB.out.1;omega) (by
  have h1:=opP_len k HK.out (a.filter fun r=>trE (predE [1,2] x0 x1 x2 x3) (predI [1,2] x0 x1 x2 x3) r.vals) (b.filter fun r=>trE (predE [1,2] x0 x1 x2 x3) (predI [1,2] x0 x1 x2 x3) r.vals)
  have h2:=HA.out.1
  have h3:=HB.out.1
  have h4:=List.length_filter_le (fun r:Row=>trE (predE [1,2] x0 x1 x2 x3) (predI [1,2] x0 x1 x2 x3) r.vals) a
  have h5:=List.length_filter_le (fun r:Row=>trE (predE [1,2] x0 x1 x2 x3) (predI [1,2] x0 x1 x2 x3) r.vals) b
  omega))
 have HFA:=Lib.hid (fitE_rows (R:=RA) (by rw [HRA.out];exact eval_fitR HRS.out.2 HRS.out.1) (by have:=HF.out.2.2.2.1;omega))
 have HFB:=Lib.hid (fitE_rows (R:=RB) (by rw [hRB];exact eval_fitR HRP.out.2 HRP.out.1) (by have:=HF.out.2.2.2.2;omega))
 obtain⟨pr5,cr5,rfl,-⟩:=trq.form
 obtain⟨nr5,hnr5⟩ : ∃z,z=RB.length:=⟨_,rfl⟩
 rw [←hnr5]at trq ⊢
 have HN5:=Lib.hid hnr5
 have SQ:=Lib.hid trq
 have xs5:=Xqn.out.trans xrq
 have X5:=Lib.hid (X4.out.trans xs5)
 replace SR:=Lib.hid (SR.out.ext xs5.full)
 clear trq xrq hRB hnr5 xs5 SNq SEq Xqn X4 b0 b1 b2 b3 e0 DB XB HBX
 go_wp2_with fail
 refine(diff_rows _ _ RA RB _ SR.out SQ.out HFA.out HFB.out).mono ?_
 rintro e w6 ⟨ud,uu,rfl,td,tu,xq6⟩
 rw [HF.out.1]at td
 rw [HF.out.2.1]at tu
 obtain⟨pd,cd,rfl,-⟩:=td.form
 obtain⟨pu,cu,rfl,-⟩:=tu.form
 have X6:=Lib.hid (X5.out.trans xq6)
 replace SR:=Lib.hid (SR.out.ext xq6.full)
 replace SQ:=Lib.hid (SQ.out.ext xq6.full)
 have hl0:([]:List Row).length=0:=rfl
 rw [hl0]
 clear td tu xq6 X5 hl0 HFA HFB HRS HRP
 go_wp2_with fail
 refine(awake_algebra _ (HT.out.ext X6.out)).mono ?_
 rintro e w7 ⟨rfl,xq7⟩
 have X7:=Lib.hid (X6.out.trans xq7)
 replace SR:=Lib.hid (SR.out.ext xq7.full)
 replace SQ:=Lib.hid (SQ.out.ext xq7.full)
 clear xq7 X6
 by_cases c6:k=6
 ·have hk6:(k != 6)=false:=by simp [c6]
  have hRR:=HF.out.2.2.1 c6
  have HRR:=Lib.hid hRR
  clear c6 hRR
  go_wp2_with fail
  refine(ref_sameRows _ _ RA RB _ SR.out SQ.out).mono ?_
  rintro e w8 ⟨rfl,xq8⟩
  have hqq:eqB RA RB=true:=eqB_iff.2 HRR.out
  rw [hqq]
  have X8:=Lib.hid (X7.out.trans xq8.ext)
  clear xq8 hqq
  go_wp2_with fail
  go_ret
  exact⟨by simp,X8.out⟩
 ·have hk6:(k != 6)=true:=by simp [c6]
  clear c6
  go_wp2_with fail
  go_ret
  exact⟨by simp,X7.out⟩
end Go.Proofs.YtombmdaohcjokaaGreatDoor
namespace Go.Proofs.YtombmdaohcjokaaGreatDoor
open Go.ChangeShapes Go.RowKit
def laid3:List (String×DataW Unit):= [("math/bits.deBruijn32tab",Rows.laid_math_bits_deBruijn32tab),("math/bits.deBruijn64tab",Rows.laid_math_bits_deBruijn64tab),("internal/strconv.uint64pow10",Rows.laid_internal_strconv_uint64pow10)]
theorem door_met3 (os:Os) (args:Array Value):laidMetH Tryz.prog laid3 ((World.doorLaid Tryz.prog 29 os).forCall (fun _ _=>0) ⟨#[],args,[]⟩).memory :=
 laidMetH_of_parts3 (fuel:=8) (laidMet_of_run' 8 (by kernel_rfl) (by kernel_rfl)) (by kernel_rfl) (by kernel_rfl)
set_option maxRecDepth 100000 in
theorem of_laid3 {W:World} (h:laidMetH Tryz.prog laid3 W):TabW W:=by
 rw [MakeChecks.laidMetH_plain _ _ _ (by kernel_rfl)]at h
 have h3:=laidMet.tail (laidMet.tail h)
 exact Lib.tabIs_of_head (k:= .u64) (zs:=Lib.pow10Tab) (g:=2) (t:=353) (e:=249) (n:=20) (by kernel_rfl) (by kernel_rfl) Tryz.underlying353 Tryz.underlying249 (by kernel_rfl) (by kernel_rfl) h3
end Go.Proofs.YtombmdaohcjokaaGreatDoor
namespace Go.Proofs.YtombmdaohcjokaaGreatDoor
open Go.RowKit Go.Deep Go.ChangeShapes Go.WideShapes Go.ChangeAt
theorem cellsNum:Tryz.prog.cellsOf 121=5:=by kernel_rfl
theorem cellsU16:Tryz.prog.cellsOf 69=1:=by kernel_rfl
theorem list_five {α:Type} {l:List α} (h:l.length=5) : ∃a b c d e,l = [a,b,c,d,e]:=by
 match l,h with
 |[a,b,c,d,e],_=>exact⟨a,b,c,d,e,rfl⟩
theorem opens_num:Opens Tryz.prog 121 Rep.num:=by
 intro H enc w base spare held fuel cs x h
 obtain⟨ys,m,_,_,hl,hn,hel⟩:=DataW.trod_array Tryz.underlying121 h
 rw [cellsNum]at hl
 obtain⟨c0,c1,c2,c3,c4,rfl⟩:=list_five hl
 have g : ∀i (hi:i<5),DataW.trod enc Tryz.prog w base spare held m 69 (([c0,c1,c2,c3,c4].drop (i*1)).take 1)=some (ys[i]'(by omega)):=fun i hi=>by
  have h1:=hel i hi
  rwa [cellsU16,List.getElem?_eq_getElem (by omega)]at h1
 obtain⟨a0,e0,_,w0⟩:=DataW.trod_int Tryz.underlying69 (g 0 (by decide))
 obtain⟨a1,e1,_,w1⟩:=DataW.trod_int Tryz.underlying69 (g 1 (by decide))
 obtain⟨a2,e2,_,w2⟩:=DataW.trod_int Tryz.underlying69 (g 2 (by decide))
 obtain⟨a3,e3,_,w3⟩:=DataW.trod_int Tryz.underlying69 (g 3 (by decide))
 obtain⟨a4,e4,_,w4⟩:=DataW.trod_int Tryz.underlying69 (g 4 (by decide))
 simp at e0 e1 e2 e3 e4
 subst e0 e1 e2 e3 e4
 exact⟨⟨a0,a1,a2,a3,a4⟩,rfl,bounds_u16 w0,bounds_u16 w1,bounds_u16 w2,bounds_u16 w3,bounds_u16 w4⟩
theorem opens_nums:Opens Tryz.prog 48 (Rep.slice Rep.num):=opens_slice Tryz.underlying48 cellsNum opens_num
end Go.Proofs.YtombmdaohcjokaaGreatDoor
namespace Go.Proofs.YtombmdaohcjokaaGreatDoor
open Go.RowKit Go.Deep Go.ChangeShapes Go.WideShapes Go.ChangeAt
theorem okWide_array {P:Program} {w:World} {r:Reach} {base:Nat} {t:TypeId} {v:Value} {n:Nat} {e:TypeId} (ht:P.underlying t=some (.array n e)) (h:Value.okWide P w r base t v) : ∃cs,v = .agg cs:=by
 cases v <;> simp_all [Value.okWide]
theorem list_four {α:Type} {l:List α} (h:l.length=4) : ∃a b c d,l = [a,b,c,d]:=by
 match l,h with
 |[a,b,c,d],_=>exact⟨a,b,c,d,rfl⟩
theorem cells4:Tryz.prog.cellsOf 70=4:=by kernel_rfl
set_option maxRecDepth 100000 in
theorem open_arr4 {H:Type} {enc:TypeId×Value→H} {w:World} {base:Nat} {spare:Nat→Bool} {held:Bool} {v:Value} {d:DataW H} {ps:List MemPlace} {r:Reach} {b0:Nat}
  (hv:Value.okWide Tryz.prog w r b0 70 v) (h:DataW.Trod enc Tryz.prog w base spare held 70 v d ps) :
  ∃a b c e,v = .agg #[.int .u16 a,.int .u16 b,.int .u16 c,.int .u16 e]∧(0≤a∧a≤65535)∧(0≤b∧b≤65535)∧(0≤c∧c≤65535)∧(0≤e∧e≤65535):=by
 obtain⟨cs,rfl⟩:=okWide_array Tryz.underlying70 hv
 obtain⟨m,hm⟩:=h
 obtain⟨ys,m,_,_,hl,hn,hel⟩:=DataW.trod_array Tryz.underlying70 hm
 rw [cells4]at hl
 obtain⟨c0,c1,c2,c3,hcs⟩:=list_four hl
 rw [hcs]at hel
 have g : ∀i (hi:i<4),DataW.trod enc Tryz.prog w base spare held m 69 (([c0,c1,c2,c3].drop (i*1)).take 1)=some (ys[i]'(by omega)):=fun i hi=>by
  have h1:=hel i hi
  rwa [cellsU16,List.getElem?_eq_getElem (by omega)]at h1
 obtain⟨a0,e0,_,w0⟩:=DataW.trod_int Tryz.underlying69 (g 0 (by decide))
 obtain⟨a1,e1,_,w1⟩:=DataW.trod_int Tryz.underlying69 (g 1 (by decide))
 obtain⟨a2,e2,_,w2⟩:=DataW.trod_int Tryz.underlying69 (g 2 (by decide))
 obtain⟨a3,e3,_,w3⟩:=DataW.trod_int Tryz.underlying69 (g 3 (by decide))
 simp at e0 e1 e2 e3
 subst e0 e1 e2 e3
 refine⟨a0,a1,a2,a3,?_,bounds_u16 w0,bounds_u16 w1,bounds_u16 w2,bounds_u16 w3⟩
 have hc2:(Value.agg cs).cells.toList = [.int .u16 a0,.int .u16 a1,.int .u16 a2,.int .u16 a3]:=hcs
 have hc3:cs.toList = [.int .u16 a0,.int .u16 a1,.int .u16 a2,.int .u16 a3]:=hc2
 rw [←Array.toArray_toList (xs:=cs),hc3]
end Go.Proofs.YtombmdaohcjokaaGreatDoor
