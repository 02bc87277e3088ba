/- joined texts of a proof: AwkW, Pick, Pred, PredW, PrJ, SameT, NrmJ, BagO, BagP, BagQ, OpT, InnJ, Tab3, Bulk, GenO -/
import Derived.Test.YtkddkbpoefidpaaGreatDoorKI26
import Derived.Test.YtkddkbpoefidpaaGreatDoorKI04
import Derived.Test.YtkddkbpoefidpaaGreatDoorKI06
import Derived.Laws.OwnMore
import Derived.Test.YtkddkbpoefidpaaGreatDoorKI09
import Derived.Test.YtkddkbpoefidpaaGreatDoorKI03
import Derived.Test.YtkddkbpoefidpaaGreatDoorKI22
import Derived.Deep.QuietTactic
import Derived.BigQuiet
import Derived.Test.YtkddkbpoefidpaaGreatDoorKI01
import Derived.Test.YtkddkbpoefidpaaGreatDoorKI02
import Derived.Test.YtkddkbpoefidpaaGreatDoorKI18
import Derived.Test.YtkddkbpoefidpaaGreatDoorKI16
import Derived.Test.YtkddkbpoefidpaaGreatDoorKI25
import Derived.Test.YtkddkbpoefidpaaGreatDoorRows
import Derived.Test.YtkddkbpoefidpaaGreatDoorKI08
import Derived.ProofKit
import Derived.LaidMore
import Derived.Lib.LaidTab
import Derived.MakeChecks
import Derived.Stop.LaidErr
import Derived.ChangeSame
namespace Go.Proofs.YtkddkbpoefidpaaGreatDoor
open Go.RowKit
theorem genVals_few (x y:Int):(genVals x y).length≤1000∧ ∀z∈genVals x y,z.s.size≤1048576:=by
 refine⟨by simp [genVals],fun v hv=> ?_⟩
 have hv:v∈ [genV0 x,genV1 y]:=hv
 have h : ∀z,(genStr z).size≤2:=fun z=>by unfold genStr;split;exact Nat.zero_le _;split <;> decide
 simp only [List.mem_cons,List.not_mem_nil,or_false]at hv
 rcases hv with rfl | rfl
 ·unfold genV0;split
  ·exact Nat.zero_le _
  ·exact Nat.zero_le _
 ·unfold genV1;split
  ·exact Nat.zero_le _
  ·exact Nat.le_trans (h _) (by decide)
set_option maxRecDepth 100000 in
set_option maxHeartbeats 1000000 in
theorem awake_join (w:World) (ht:TabW w):Calls Tryz.prog 21 #[] w fun e w'=>e = .returned (.bool true)∧Ext w w':=by
 have HT:=Lib.hid ht
 clear ht
 go_enter Tryz.func21,Tryz.ntmps21
 go_wp2_with fail
 have HE0:=Lib.hid (show SliceOf Rep.expr (w.alloc (.cells #[.int .i64 1,.int .i64 0,.int .i64 0,.int .i64 0,.int .i64 3,.int .i64 1,.string ⟨#[]⟩] 77)).cell? (.slice (some ⟨w.heap.size,0,none⟩) 1 1) awkE from
  slice_lit Rep.expr w [.int .i64 1,.int .i64 0,.int .i64 0,.int .i64 0,.int .i64 3,.int .i64 1,.string ⟨#[]⟩] 77 [[.int .i64 1,.int .i64 0,.int .i64 0,.int .i64 0,.int .i64 3,.int .i64 1,.string ⟨#[]⟩]] awkE rfl ⟨⟨rfl,by unfold okI;dsimp only;omega,⟨by dsimp only;omega,by dsimp only;omega,Nat.zero_le _⟩⟩,trivial⟩ (by simp [maxLen,awkE]))
 have X0:=Lib.hid ((Ext.refl w).alloc (.cells #[.int .i64 1,.int .i64 0,.int .i64 0,.int .i64 0,.int .i64 3,.int .i64 1,.string ⟨#[]⟩] 77))
 obtain⟨be,hbe⟩ : ∃z,z=w.heap.size:=⟨_,rfl⟩
 obtain⟨w0,hw0⟩ : ∃z,z=w.alloc (.cells #[.int .i64 1,.int .i64 0,.int .i64 0,.int .i64 0,.int .i64 3,.int .i64 1,.string ⟨#[]⟩] 77):=⟨_,rfl⟩
 rw [←hbe,←hw0]at HE0
 rw [←hw0]at X0
 try rw [←hbe]
 try rw [←hw0]
 clear hbe hw0
 refine(vals_gen 0 0 _ (by omega) (by omega) (by omega) (by omega)).mono ?_
 rintro e w1 ⟨u1,rfl,t1,x1⟩
 obtain⟨p1,c1,rfl,_⟩:=t1.form
 have hl1:(genVals 0 0).length=2:=rfl
 rw [hl1]at t1 ⊢
 have hf1:=genVals_few 0 0
 obtain⟨g1,hg1⟩ : ∃g,g=genVals 0 0:=⟨_,rfl⟩
 rw [←hg1]at t1 hf1
 have xl1:Ext w1 ((w1.alloc (.cells #[.int .i64 1] 3)).alloc (.cells #[.slice p1 2 c1,.int .i64 0,.int .i64 9,.slice (some ⟨w1.heap.size,0,none⟩) 1 1] 96)):=((Ext.refl _).alloc _).alloc _
 have l1:=slice_lit Rep.int w1 [.int .i64 1] 3 [[.int .i64 1]] [1] rfl ⟨⟨rfl,by omega⟩,trivial⟩ (by simp [maxLen])
 have a1:SliceOf Rep.tup ((w1.alloc (.cells #[.int .i64 1] 3)).alloc (.cells #[.slice p1 2 c1,.int .i64 0,.int .i64 9,.slice (some ⟨w1.heap.size,0,none⟩) 1 1] 96)).cell? (.slice (some ⟨(w1.alloc (.cells #[.int .i64 1] 3)).heap.size,0,none⟩) 1 1) [awkA g1]:=slice_lit Rep.tup (w1.alloc (.cells #[.int .i64 1] 3)) [.slice p1 2 c1,.int .i64 0,.int .i64 9,.slice (some ⟨w1.heap.size,0,none⟩) 1 1] 96 [[.slice p1 2 c1,.int .i64 0,.int .i64 9,.slice (some ⟨w1.heap.size,0,none⟩) 1 1]] [awkA g1] rfl ⟨⟨_,_,rfl,(t1.ext (on_sub _ _)).ext xl1.full,l1.ext ((Ext.refl _).alloc _).full,(show okI 0 by unfold okI;omega),(show okI 9 by unfold okI;omega)⟩,trivial⟩ (by simp [maxLen])
 go_wp2_with fail
 have hz1:(w1.alloc (.cells #[.int .i64 1] 3)).heap.size=w1.heap.size+1:=by simp
 rw [hz1]at a1
 obtain⟨b1,hb1⟩ : ∃z,z=w1.heap.size+1:=⟨_,rfl⟩
 obtain⟨v1,hv1⟩ : ∃z,z=(w1.alloc (.cells #[.int .i64 1] 3)).alloc (.cells #[.slice p1 2 c1,.int .i64 0,.int .i64 9,.slice (some ⟨w1.heap.size,0,none⟩) 1 1] 96):=⟨_,rfl⟩
 rw [←hb1,←hv1]at a1
 rw [←hv1]at xl1
 try rw [←hb1]
 try rw [←hv1]
 have A1:=Lib.hid a1
 have F1:=Lib.hid (show fewT [awkA g1]from fun t ht=>by rw [List.mem_singleton]at ht;subst ht;exact⟨hf1.1,hf1.2,by simp [awkA]⟩)
 have E1:=Lib.hid (HE0.out.ext (x1.trans xl1).full)
 have X1:=Lib.hid (X0.out.trans (x1.trans xl1))
 clear x1 xl1 t1 hl1 hf1 hg1 l1 a1 hb1 hv1 hz1 HE0 X0
 refine(vals_gen 1 1 _ (by omega) (by omega) (by omega) (by omega)).mono ?_
 rintro e w2 ⟨u2,rfl,t2,x2⟩
 obtain⟨p2,c2,rfl,_⟩:=t2.form
 have hl2:(genVals 1 1).length=2:=rfl
 rw [hl2]at t2 ⊢
 have hf2:=genVals_few 1 1
 obtain⟨g2,hg2⟩ : ∃g,g=genVals 1 1:=⟨_,rfl⟩
 rw [←hg2]at t2 hf2
 have xl2:Ext w2 ((w2.alloc (.cells #[.int .i64 2] 3)).alloc (.cells #[.slice p2 2 c2,.int .i64 5,.int .i64 20,.slice (some ⟨w2.heap.size,0,none⟩) 1 1] 96)):=((Ext.refl _).alloc _).alloc _
 have l2:=slice_lit Rep.int w2 [.int .i64 2] 3 [[.int .i64 2]] [2] rfl ⟨⟨rfl,by omega⟩,trivial⟩ (by simp [maxLen])
 have a2:SliceOf Rep.tup ((w2.alloc (.cells #[.int .i64 2] 3)).alloc (.cells #[.slice p2 2 c2,.int .i64 5,.int .i64 20,.slice (some ⟨w2.heap.size,0,none⟩) 1 1] 96)).cell? (.slice (some ⟨(w2.alloc (.cells #[.int .i64 2] 3)).heap.size,0,none⟩) 1 1) [awkB g2]:=slice_lit Rep.tup (w2.alloc (.cells #[.int .i64 2] 3)) [.slice p2 2 c2,.int .i64 5,.int .i64 20,.slice (some ⟨w2.heap.size,0,none⟩) 1 1] 96 [[.slice p2 2 c2,.int .i64 5,.int .i64 20,.slice (some ⟨w2.heap.size,0,none⟩) 1 1]] [awkB g2] rfl ⟨⟨_,_,rfl,(t2.ext (on_sub _ _)).ext xl2.full,l2.ext ((Ext.refl _).alloc _).full,(show okI 5 by unfold okI;omega),(show okI 20 by unfold okI;omega)⟩,trivial⟩ (by simp [maxLen])
 go_wp2_with fail
 have hz2:(w2.alloc (.cells #[.int .i64 2] 3)).heap.size=w2.heap.size+1:=by simp
 rw [hz2]at a2
 obtain⟨b2,hb2⟩ : ∃z,z=w2.heap.size+1:=⟨_,rfl⟩
 obtain⟨v2,hv2⟩ : ∃z,z=(w2.alloc (.cells #[.int .i64 2] 3)).alloc (.cells #[.slice p2 2 c2,.int .i64 5,.int .i64 20,.slice (some ⟨w2.heap.size,0,none⟩) 1 1] 96):=⟨_,rfl⟩
 rw [←hb2,←hv2]at a2
 rw [←hv2]at xl2
 try rw [←hb2]
 try rw [←hv2]
 have A2:=Lib.hid a2
 have F2:=Lib.hid (show fewT [awkB g2]from fun t ht=>by rw [List.mem_singleton]at ht;subst ht;exact⟨hf2.1,hf2.2,by simp [awkB]⟩)
 have E2:=Lib.hid (E1.out.ext (x2.trans xl2).full)
 have X2:=Lib.hid (X1.out.trans (x2.trans xl2))
 have A1':=Lib.hid (A1.out.ext (x2.trans xl2).full)
 clear x2 xl2 t2 hl2 hf2 hg2 l2 a2 hb2 hv2 hz2 E1 X1 A1
 refine(inner_any _ _ [awkA g1] [awkB g2] _ awkE 0 _ A1'.out A2.out (by simp) (by simp) E2.out (by simp [awkE]) F1.out F2.out (HT.out.ext X2.out)).mono ?_
 rintro e w3 ⟨u3,rfl,t3,x3⟩
 rw [awk_inner]at t3
 have s3:=t3.ext (on_sub _ _)
 obtain⟨p3,c3,rfl,_,_,hp3⟩:=s3.form
 have hl3:([⟨g1++g2,5,9,[1,2]⟩]:List Tup).length=1:=rfl
 obtain⟨b3,o3,rfl⟩:=hp3 (by decide) (by simp)
 rw [hl3]at s3 ⊢
 have S3:=Lib.hid s3
 have E3:=Lib.hid (E2.out.ext x3.full)
 have X3:=Lib.hid (X2.out.trans x3)
 have A13:=Lib.hid (A1'.out.ext x3.full)
 have A23:=Lib.hid (A2.out.ext x3.full)
 clear t3 x3 s3 hp3 E2 X2 A1' A2 hl3
 go_wp2_with fail
 refine(leftOuter_any _ _ [awkA g1] [awkB g2] _ awkE 0 2 _ A13.out A23.out (by simp) (by simp) E3.out (by simp [awkE]) F1.out F2.out (HT.out.ext X3.out)).mono ?_
 rintro e w4 ⟨u4,rfl,t4,x4⟩
 rw [nullW_two]at t4
 obtain⟨p4,c4,rfl,_⟩:=t4.form
 rw [awk_left g1 g2]
 have E4:=Lib.hid (E3.out.ext x4.full)
 have X4:=Lib.hid (X3.out.trans x4)
 have A14:=Lib.hid (A13.out.ext x4.full)
 have A24:=Lib.hid (A23.out.ext x4.full)
 have s4:=S3.out.ext x4.full
 obtain⟨ta,tb,c0,c1',c2,c3',h0,h1,_,_⟩:=tup_at s4 0 (by simp)
 simp only [Nat.zero_mul,Nat.add_zero,List.getElem_cons_zero]at c0 c1' c2 c3' h0 h1
 obtain⟨p5,c5,rfl,_⟩:=h0.form
 obtain⟨p6,c6,rfl,_⟩:=h1.form
 have hl6:([1,2]:List Int).length=2:=rfl
 rw [hl6]at c3'
 have e0:=cell_lt c0
 clear t4 x4 h0 h1 hl6 s4 S3 E3 X3 A13 A23
 go_wp2_with fail
 refine(innerAligned_any _ _ [awkA g1] [awkB g2] _ awkE 0 _ A14.out A24.out (by simp) (by simp) E4.out (by simp [awkE]) F1.out F2.out (HT.out.ext X4.out)).mono ?_
 rintro e w5 ⟨u5,rfl,t5,x5⟩
 rw [awk_inner]at t5
 obtain⟨p7,c7,rfl,_⟩:=t5.form
 have hl5:([⟨g1++g2,5,9,[1,2]⟩]:List Tup).length=1:=rfl
 rw [hl5]
 have X5:=Lib.hid (X4.out.trans x5)
 clear t5 x5 c0 c1' c2 c3' e0 hl5
 go_wp2_with fail
 go_ret
 exact⟨rfl,X5.out⟩
end Go.Proofs.YtkddkbpoefidpaaGreatDoor
namespace Go.Proofs.YtkddkbpoefidpaaGreatDoor
open Go.RowKit
def pickI (k n:Int):Int:=if n≤0 then 0 else(k % n+n) % n
end Go.Proofs.YtkddkbpoefidpaaGreatDoor
namespace Go.Proofs.YtkddkbpoefidpaaGreatDoor
open Go.RowKit
def constV (kind x:Int):Val:=if kind=1 then genV0 (x % 6)else if kind=2 then genV1 (x % 6)else if kind=3 then⟨3,x % 2,ByteArray.empty⟩else nV
end Go.Proofs.YtkddkbpoefidpaaGreatDoor
namespace Go.Proofs.YtkddkbpoefidpaaGreatDoor
open Go.RowKit
structure PIn (w0 wr:World) (bx base:Nat) (T:TypeId) (x0 x1 x2 x3:Int) (u0 u:Value) (es:List ExprI):Prop where
 own:OwnOf Rep.expr wr (fun _=>True) base T u es
 chg:Chg (fun k=>u0.ownBlock=some k) w0 wr
 b0:wr.cell? ⟨bx,0,none⟩=some (.int .u16 x0)
 b1:wr.cell? ⟨bx,1,none⟩=some (.int .u16 x1)
 b2:wr.cell? ⟨bx,2,none⟩=some (.int .u16 x2)
 b3:wr.cell? ⟨bx,3,none⟩=some (.int .u16 x3)
 ne : ∀k,u.ownBlock=some k→k≠bx∧(u0.ownBlock=some k∨w0.heap.size≤k)
 hb:base≤wr.heap.size
section
variable {w0 wr w':World} {bx base:Nat} {T:TypeId} {x0 x1 x2 x3:Int} {u0 u:Value} {es ys:List ExprI}
end
def selE (kinds:List Int) (x2 x3:Int) (i k:Nat):ExprI:=if kinds.getD i 0=kinds.getD k 0∧x2 % 5<3 then⟨2,0,0,k,nV⟩else⟨1,0,0,0,constV (kinds.getD i 0) x3⟩
def predL (kinds:List Int) (x0 x1 x2 x3:Int) (n:Nat):List ExprI :=
 [⟨2,0,0,pickI x0 kinds.length,nV⟩]++if x2 % 5=0 then [⟨11,n,0,0,nV⟩]else
  [selE kinds x2 x3 (pickI x0 kinds.length).toNat (pickI x1 kinds.length).toNat,⟨if x2 % 2=0 then 7 else 6,n,n+1,0,nV⟩]++if x3 % 4=0 then [⟨10,n+2,0,0,nV⟩]else []
def PredPost (u:Value) (w:World) (base:Nat) (full:List ExprI) (e:Ending) (w':World):Prop :=
 ∃u',e = .returned (.tuple #[u',.int .i64 ((full.length - 1:Nat):Int)])∧OwnOf Rep.expr w' (fun _=>True) base 77 u' full∧Chg (fun k=>u.ownBlock=some k) w w'∧ ∀k,u'.ownBlock=some k→u.ownBlock=some k∨w.heap.size≤k
end Go.Proofs.YtkddkbpoefidpaaGreatDoor
namespace Go.Proofs.YtkddkbpoefidpaaGreatDoor
open Go.RowKit
end Go.Proofs.YtkddkbpoefidpaaGreatDoor
namespace Go.Proofs.YtkddkbpoefidpaaGreatDoor
open Go.RowKit
set_option maxHeartbeats 1000000 in
theorem row_ref (p:Option Addr) (n c:Nat) (q:Option Addr) (m d:Nat) (f t:Int) (w:World) :
  Calls Tryz.prog 51 #[.agg #[.slice p n c,.int .i64 f,.int .i64 t,.slice q m d]] w fun e w'=>e = .returned (.agg #[.slice p n c,.slice q m d])∧Ext w w':=by
 go_enter Tryz.func51,Tryz.ntmps51
 go_wp2_with fail
 exact bodyPost_ret (v:= .agg #[.slice p n c,.slice q m d]) (by simp [results,Tryz.results51,go_sem]) rfl ⟨rfl,((Ext.refl w).alloc _).alloc _⟩
set_option maxRecDepth 100000 in
set_option maxHeartbeats 4000000 in
theorem same_tuples (va vb:Value) (l:List Tup) (w:World) (ha:SliceOf Rep.tup w.cell? va l) (hb:SliceOf Rep.tup w.cell? vb l) :
  Calls Tryz.prog 17 #[va,vb] w fun e w'=>e = .returned (.bool true)∧Ext w w':=by
 obtain⟨pa,ca,rfl,ha1,ha2,ha3⟩:=ha.form
 obtain⟨pb,cb,rfl,hb1,hb2,hb3⟩:=hb.form
 unfold maxLen at ha2 hb2
 obtain⟨N,hN⟩ : ∃N,N=l.length:=⟨_,rfl⟩
 rw [←hN]at ha1 ha3 hb1 hb3 ha hb ⊢
 have HN:=Lib.hid hN
 have HA:=Lib.hid ha
 have HB:=Lib.hid hb
 have HP:=Lib.hid (And.intro ha3 hb3)
 clear ha hb hN ha3 hb3
 go_enter Tryz.func17,Tryz.ntmps17
 go_wp2_with fail
 go_loopg [5] N (fun gk i wr=> ∃k:Nat,k≤N∧gk=N - k∧i = .int .i64 k∧Ext w wr)
 case atStart=>exact⟨0,by omega,rfl,rfl,Ext.refl w⟩
 case round =>
  obtain⟨k,hk,rfl,rfl,hx⟩:=hrel
  by_cases hlt:k<N
  ·have hkl:k<l.length:=by have:=HN.out;omega
   obtain⟨ba,oa,rfl⟩:=HP.out.1 (by decide) (by omega)
   obtain⟨bb,ob,rfl⟩:=HP.out.2 (by decide) (by omega)
   have hva:=HA.out
   have hvb:=HB.out
   rw [HN.out]at hva hvb
   obtain⟨u1,u2,c1,c2,c3,c4,s1,s2,_,_⟩:=tup_at hva k hkl
   obtain⟨v1,v2,d1,d2,d3,d4,t1,t2,_,_⟩:=tup_at hvb k hkl
   generalize l[k]=x at c2 c3 d2 d3 s1 s2 t1 t2
   replace c1:=hx.at c1
   replace c2:=hx.at c2
   replace c3:=hx.at c3
   replace c4:=hx.at c4
   replace d1:=hx.at d1
   replace d2:=hx.at d2
   replace d3:=hx.at d3
   replace d4:=hx.at d4
   obtain⟨p1,q1,rfl,_⟩:=s1.form
   obtain⟨p2,q2,rfl,_⟩:=s2.form
   obtain⟨p3,q3,rfl,_⟩:=t1.form
   obtain⟨p4,q4,rfl,_⟩:=t2.form
   have S1:=Lib.hid (s1.ext hx.full)
   have S2:=Lib.hid (s2.ext hx.full)
   have T1:=Lib.hid (t1.ext hx.full)
   have T2:=Lib.hid (t2.ext hx.full)
   obtain⟨xv,xf,xt,xl⟩:=x
   dsimp only at c2 c3 d2 d3 c1 c4 d1 d4 S1 S2 T1 T2
   obtain⟨n1,hn1⟩ : ∃n,n=xv.length:=⟨_,rfl⟩
   obtain⟨n2,hn2⟩ : ∃n,n=xl.length:=⟨_,rfl⟩
   have HX0:=Lib.hid hx
   rw [←hn1]at c1 d1 S1 T1
   rw [←hn2]at c4 d4 S2 T2
   have hd:decide ((k:Int)<(N:Int))=true:=by simp;omega
   have hd1:(k:Int)<(N:Int):=by omega
   have hS0:Ext wr wr.drew∧wr.drew.cell? ⟨ba,oa+k*4,none⟩=some (.slice p1 n1 q1)∧wr.drew.cell? ⟨ba,oa+k*4+1,none⟩=some (.int .i64 xf)∧wr.drew.cell? ⟨ba,oa+k*4+2,none⟩=some (.int .i64 xt)∧wr.drew.cell? ⟨ba,oa+k*4+3,none⟩=some (.slice p2 n2 q2)∧wr.drew.cell? ⟨bb,ob+k*4,none⟩=some (.slice p3 n1 q3)∧wr.drew.cell? ⟨bb,ob+k*4+1,none⟩=some (.int .i64 xf)∧wr.drew.cell? ⟨bb,ob+k*4+2,none⟩=some (.int .i64 xt)∧wr.drew.cell? ⟨bb,ob+k*4+3,none⟩=some (.slice p4 n2 q4):=⟨(Ext.refl wr).drew,c1,c2,c3,c4,d1,d2,d3,d4⟩
   clear s1 s2 t1 t2 hn1 hn2 hva hvb hx c1 c2 c3 c4 d1 d2 d3 d4
   go_wp2_with fail
   go_region_held3 (fun w'=>Ext wr w'∧w'.cell? ⟨ba,oa+k*4,none⟩=some (.slice p1 n1 q1)∧w'.cell? ⟨ba,oa+k*4+1,none⟩=some (.int .i64 xf)∧w'.cell? ⟨ba,oa+k*4+2,none⟩=some (.int .i64 xt)∧w'.cell? ⟨ba,oa+k*4+3,none⟩=some (.slice p2 n2 q2)∧w'.cell? ⟨bb,ob+k*4,none⟩=some (.slice p3 n1 q3)∧w'.cell? ⟨bb,ob+k*4+1,none⟩=some (.int .i64 xf)∧w'.cell? ⟨bb,ob+k*4+2,none⟩=some (.int .i64 xt)∧w'.cell? ⟨bb,ob+k*4+3,none⟩=some (.slice p4 n2 q4))
    (first |with_reducible assumption | with_reducible exact keepE8 (by assumption) hx2)
    (first
     |(go_at_call 51;refine(row_ref _ _ _ _ _ _ _ _ _).mono ?_;rintro e w2 ⟨rfl,hx2⟩)
     |(go_at_call 50;refine(ref_sameRow _ _ _ _ ⟨xv,xl⟩ ⟨xv,xl⟩ _ (by exact S1.out.ext (And.left ‹Ext wr _∧_›).full) (by exact T1.out.ext (And.left ‹Ext wr _∧_›).full) (by exact S2.out.ext (And.left ‹Ext wr _∧_›).full) (by exact T2.out.ext (And.left ‹Ext wr _∧_›).full)).mono ?_;rintro e w2 ⟨rfl,hg2⟩;have hx2:=Gro.ext hg2))
   all_goals (obtain⟨hfin,_⟩:= ‹Ext wr _∧_›)
   all_goals (have HF:=Lib.hid (HX0.out.trans hfin))
   all_goals (have hq:eqB (⟨xv,xl⟩:Row) ⟨xv,xl⟩=true:=eqB_iff.2 rfl)
   all_goals rw [hq]
   all_goals go_wp2_with fail
   all_goals
    go_roundg (N - (k+1))
    case measure=>omega
    case rel=>exact⟨k+1,by omega,rfl,by go_num,HF.out⟩
  ·have hd : ¬(k:Int)<(N:Int):=by omega
   go_wp2_with fail
   go_ret
   exact⟨rfl,hx⟩
end Go.Proofs.YtkddkbpoefidpaaGreatDoor
namespace Go.Proofs.YtkddkbpoefidpaaGreatDoor
open Go.RowKit
end Go.Proofs.YtkddkbpoefidpaaGreatDoor
namespace Go.Proofs.YtkddkbpoefidpaaGreatDoor
open Go.RowKit
end Go.Proofs.YtkddkbpoefidpaaGreatDoor
namespace Go.Proofs.YtkddkbpoefidpaaGreatDoor
open Go.RowKit
def r1:Row:=⟨[nV],[1]⟩
def r2:Row:=⟨[nV],[2]⟩
end Go.Proofs.YtkddkbpoefidpaaGreatDoor
namespace Go.Proofs.YtkddkbpoefidpaaGreatDoor
open Go.RowKit Go.Deep Go.ChangeShapes Go.WideShapes Go.ChangeAt
theorem cellsVal:Tryz.prog.cellsOf 73=3:=by kernel_rfl
theorem cellsInt:Tryz.prog.cellsOf 3=1:=by kernel_rfl
theorem cellsInt64:Tryz.prog.cellsOf 2=1:=by kernel_rfl
theorem cellsStr:Tryz.prog.cellsOf 9=1:=by kernel_rfl
theorem cellsVals:Tryz.prog.cellsOf 68=1:=by kernel_rfl
theorem cellsInts:Tryz.prog.cellsOf 24=1:=by kernel_rfl
theorem list_three {α:Type} {l:List α} (h:l.length=3) : ∃a b c,l = [a,b,c]:=by
 match l,h with
 |[a,b,c],_=>exact⟨a,b,c,rfl⟩
theorem opens_val:Opens Tryz.prog 73 Rep.val:=by
 intro H enc w base spare held fuel cs x h
 obtain⟨y0,y1,y2,n,_,hl,h0,h1,h2⟩:=trod_struct3 Tryz.underlying73 h
 rw [cellsVal]at hl
 obtain⟨c0,c1,c2,rfl⟩:=list_three hl
 simp [cellsInt,cellsInt64,cellsStr]at h0 h1 h2
 obtain⟨a0,e0,_,w0⟩:=DataW.trod_int Tryz.underlying3 h0
 obtain⟨a1,e1,_,w1⟩:=DataW.trod_int Tryz.underlying2 h1
 obtain⟨a2,e2,_,w2⟩:=DataW.trod_string Tryz.underlying9 h2
 simp at e0 e1 e2
 subst e0 e1 e2
 exact⟨⟨a0,a1,a2⟩,rfl,wf_i64 w0,wf_i64 w1,w2⟩
theorem opens_ints:Opens Tryz.prog 24 (Rep.slice Rep.int):=opens_slice Tryz.underlying24 cellsInt (opens_int Tryz.underlying3)
theorem open_arg {α:Type} {P:Program} {t e:TypeId} {R:Rep α} (ht:P.underlying t=some (.slice e)) (hR:Opens P t (Rep.slice R)) {H:Type} {enc:TypeId×Value→H} {w:World} {base:Nat} {spare:Nat→Bool} {held:Bool} {v:Value} {d:DataW H} {ps:List MemPlace} {r:Reach} {b0:Nat}
  (hv:Value.okWide P w r b0 t v) (h:DataW.Trod enc P w base spare held t v d ps) : ∃xs,SliceOf R w.cell? v xs:=by
 obtain⟨a,n,c,rfl⟩:=okWide_slice ht hv
 obtain⟨m,hm⟩:=h
 obtain⟨xs,v',e,hs⟩:=hR H enc w base spare held m _ _ hm
 simp [Value.cells]at e
 subst e
 exact⟨xs,hs⟩
end Go.Proofs.YtkddkbpoefidpaaGreatDoor
namespace Go.Proofs.YtkddkbpoefidpaaGreatDoor
open Go.RowKit Go.Deep Go.ChangeShapes Go.WideShapes Go.ChangeAt
theorem cellsTup:Tryz.prog.cellsOf 96=4:=by kernel_rfl
theorem cellsPer:Tryz.prog.cellsOf 94=2:=by kernel_rfl
theorem cellsExpr:Tryz.prog.cellsOf 77=7:=by kernel_rfl
theorem list_fourT {α:Type} {l:List α} (h:l.length=4) : ∃a b c d,l = [a,b,c,d]:=by
 match l,h with
 |[a,b,c,d],_=>exact⟨a,b,c,d,rfl⟩
theorem list_seven {α:Type} {l:List α} (h:l.length=7) : ∃a b c d e f g,l = [a,b,c,d,e,f,g]:=by
 match l,h with
 |[a,b,c,d,e,f,g],_=>exact⟨a,b,c,d,e,f,g,rfl⟩
theorem opens_expr:Opens Tryz.prog 77 Rep.expr:=by
 intro H enc w base spare held fuel cs x h
 obtain⟨ys,n,_,rfl,hl,hlen,hf⟩:=DataW.trod_struct Tryz.underlying77 h
 rw [cellsExpr]at hl
 obtain⟨c0,c1,c2,c3,c4,c5,c6,rfl⟩:=list_seven hl
 match ys,hlen with
 |[y0,y1,y2,y3,y4],_ =>
  have h0:=hf 0 _ rfl
  have h1:=hf 1 _ rfl
  have h2:=hf 2 _ rfl
  have h3:=hf 3 _ rfl
  have h4:=hf 4 _ rfl
  simp [cellsInt,cellsVal]at h0 h1 h2 h3 h4
  obtain⟨a0,e0,_,w0⟩:=DataW.trod_int Tryz.underlying3 h0
  obtain⟨a1,e1,_,w1⟩:=DataW.trod_int Tryz.underlying3 h1
  obtain⟨a2,e2,_,w2⟩:=DataW.trod_int Tryz.underlying3 h2
  obtain⟨a3,e3,_,w3⟩:=DataW.trod_int Tryz.underlying3 h3
  obtain⟨⟨vk,vn,vs⟩,e4,ho⟩:=opens_val H enc w base spare held n _ _ h4
  simp at e0 e1 e2 e3 e4
  obtain⟨rfl,rfl,rfl⟩:=e4
  subst e0 e1 e2 e3
  exact⟨⟨a0,a1,a2,a3,⟨vk,vn,vs⟩⟩,rfl,⟨wf_i64 w0,wf_i64 w1,wf_i64 w2,wf_i64 w3⟩,ho⟩
theorem opens_exprs:Opens Tryz.prog 23 (Rep.slice Rep.expr):=opens_slice Tryz.underlying23 cellsExpr opens_expr
def fewN (n:Nat) (l:List Tup):Prop:=l.length≤n∧ ∀t∈l,t.vals.length≤6∧t.lin.length≤6
set_option maxHeartbeats 2000000 in
theorem fewTups_any (va:Value) (n:Nat) (hn:n≤1000) (l:List Tup) (w:World) (ha:SliceOf Rep.tup w.cell? va l) :
  Calls Tryz.prog 15 #[va,.int .i64 n] w fun e w'=> ∃b,e = .returned (.bool b)∧(b=true→fewN n l)∧w=w':=by
 obtain⟨pa,ca,rfl,ha1,ha2,ha3⟩:=ha.form
 unfold maxLen at ha2
 go_enter Tryz.func15,Tryz.ntmps15
 go_wp2_with fail
 go_loopg [5] l.length (fun gk i wr=> ∃k:Nat,k≤l.length∧gk=l.length - k∧i = .int .i64 k∧k≤n+1∧Hid (∀t∈l.take k,t.vals.length≤6∧t.lin.length≤6)∧w=wr)
 case atStart=>exact⟨0,by omega,rfl,rfl,by omega,(fun t ht=>by simp at ht),rfl⟩
 case round =>
  obtain⟨k,hk,rfl,rfl,hkn,HK,rfl⟩:=hrel
  by_cases hlt:k<l.length∧k≤n
  ·obtain⟨hlt,hlt2⟩:=hlt
   obtain⟨ba,oa,rfl⟩:=ha3 (by decide) (by omega)
   obtain⟨u1,u2,c1,_,_,c2,s1,s2,_,_⟩:=tup_at ha k hlt
   obtain⟨p1,q1,rfl,hp1,hp2,_⟩:=s1.form
   obtain⟨p2,q2,rfl,hp3,hp4,_⟩:=s2.form
   have hnx:(l[k].vals.length≤6∧l[k].lin.length≤6)→ ∀t∈l.take (k+1),t.vals.length≤6∧t.lin.length≤6:=fun h t ht=>by
    rw [List.take_succ_eq_append_getElem hlt]at ht
    rcases List.mem_append.1 ht with ht | ht
    ·exact HK.out t ht
    ·rw [List.mem_singleton]at ht;subst ht;exact h
   generalize l[k].vals.length=n1 at c1 hp1 hnx
   generalize l[k].lin.length=n2 at c2 hp3 hnx
   have HX:=Lib.hid hnx
   clear hnx
   unfold maxLen at hp2 hp4
   have hd:decide ((k:Int)<(l.length:Int))=true:=by simp;omega
   have hdb:decide ((k:Int)≤(n:Int))=true:=by simp;omega
   have hd1:(k:Int)<(l.length:Int):=by omega
   clear s1 s2 ha ha3
   by_cases hsh:n1≤6∧n2≤6
   ·have hb1:decide ((n1:Int)>6)=false:=by simp;omega
    have hb2:decide ((n2:Int)>6)=false:=by simp;omega
    have hb3:decide ((6:Int)<(n1:Int))=false:=by simp;omega
    have hb4:decide ((6:Int)<(n2:Int))=false:=by simp;omega
    have HNX:=Lib.hid (HX.out hsh)
    clear hsh
    go_wp2_with fail
    go_roundg (l.length - (k+1))
    case measure=>omega
    case rel=>exact⟨k+1,by omega,rfl,by go_num,by omega,HNX.out,rfl⟩
   ·by_cases hv6:n1≤6
    ·have hb1:decide ((n1:Int)>6)=false:=by simp;omega
     have hb2:decide ((n2:Int)>6)=true:=by simp;omega
     have hb3:decide ((6:Int)<(n1:Int))=false:=by simp;omega
     have hb4:decide ((6:Int)<(n2:Int))=true:=by simp;omega
     clear hsh hv6
     go_wp2_with fail
     go_ret
     exact⟨_,rfl,by simp,rfl⟩
    ·have hb1:decide ((n1:Int)>6)=true:=by simp;omega
     have hb3:decide ((6:Int)<(n1:Int))=true:=by simp;omega
     clear hsh hv6
     go_wp2_with fail
     go_ret
     exact⟨_,rfl,by simp,rfl⟩
  ·by_cases hk3:k<l.length
   ·have hd:decide ((k:Int)<(l.length:Int))=true:=by simp;omega
    have hdb:decide ((k:Int)≤(n:Int))=false:=by simp;omega
    go_wp2_with fail
    go_ret
    exact⟨_,rfl,fun h=>absurd h (by simp;omega),rfl⟩
   ·have hd:decide ((k:Int)<(l.length:Int))=false:=by simp;omega
    have:k=l.length:=by omega
    subst this
    go_wp2_with fail
    go_ret
    exact⟨_,rfl,fun h=>⟨by simpa using h,fun t ht=>HK.out t (by rw [List.take_length];exact ht)⟩,rfl⟩
end Go.Proofs.YtkddkbpoefidpaaGreatDoor
namespace Go.Proofs.YtkddkbpoefidpaaGreatDoor
open Go.RowKit
theorem fewN_T {n:Nat} {l:List Tup} (h:fewN n l) (hs : ∀t∈l,∀v∈t.vals,v.s.size≤1048576):fewT l:=fun t ht=>⟨by have:=h.2 t ht;omega,hs t ht,by have:=h.2 t ht;omega⟩
set_option maxHeartbeats 2000000 in
theorem few_any (va vb ve:Value) (a b:List Tup) (es:List ExprI) (w:World) (ha:SliceOf Rep.tup w.cell? va a) (hb:SliceOf Rep.tup w.cell? vb b) (he:SliceOf Rep.expr w.cell? ve es) :
  Calls Tryz.prog 20 #[va,vb,ve] w fun e w'=> ∃r,e = .returned (.bool r)∧(r=true→fewN 8 a∧fewN 8 b∧es.length≤40)∧w=w':=by
 have HA:=Lib.hid ha
 have HB:=Lib.hid hb
 obtain⟨pa,ca,rfl,_⟩:=ha.form
 obtain⟨pb,cb,rfl,_⟩:=hb.form
 obtain⟨pe,ce,rfl,_⟩:=he.form
 obtain⟨na,hna⟩ : ∃n,n=a.length:=⟨_,rfl⟩
 obtain⟨nb,hnb⟩ : ∃n,n=b.length:=⟨_,rfl⟩
 obtain⟨ne,hne⟩ : ∃n,n=es.length:=⟨_,rfl⟩
 rw [←hna]at HA ⊢
 rw [←hnb]at HB ⊢
 rw [←hne]
 clear ha hb he hna hnb hne
 go_enter Tryz.func20,Tryz.ntmps20
 go_wp2_with fail
 refine(fewTups_any _ 8 (by decide) a _ HA.out).mono ?_
 rintro e w1 ⟨r1,rfl,h1,rfl⟩
 cases r1
 ·clear h1
  go_wp2_with fail
  go_ret
  exact⟨_,rfl,fun h=>absurd h (by simp),rfl⟩
 ·have H1:=Lib.hid (h1 rfl)
  clear h1
  go_wp2_with fail
  refine(fewTups_any _ 8 (by decide) b _ HB.out).mono ?_
  rintro e w2 ⟨r2,rfl,h2,rfl⟩
  cases r2
  ·clear h2
   go_wp2_with fail
   go_ret
   exact⟨_,rfl,fun h=>absurd h (by simp),rfl⟩
  ·have H2:=Lib.hid (h2 rfl)
   clear h2
   by_cases h40:ne≤40
   ·have d40:decide ((ne:Int)≤40)=true:=by simp;omega
    have H3:=Lib.hid h40
    clear h40
    go_wp2_with fail
    go_ret
    exact⟨_,rfl,fun _=>⟨H1.out,H2.out,H3.out⟩,rfl⟩
   ·have d40:decide ((ne:Int)≤40)=false:=by simp;omega
    clear h40
    go_wp2_with fail
    go_ret
    exact⟨_,rfl,fun h=>absurd h (by simp),rfl⟩
set_option maxRecDepth 100000 in
set_option maxHeartbeats 4000000 in
theorem JoinInner_walk (v0:Value) (a:List Tup) (v1:Value) (b:List Tup) (v2:Value) (es:List ExprI) (pred:Int) {w:World} (s0:SliceOf Rep.tup w.cell? v0 a) (s1:SliceOf Rep.tup w.cell? v1 b) (s2:SliceOf Rep.expr w.cell? v2 es)
  (_:(Lit.int .i64 pred).wf=true) (hsa : ∀t∈a,∀v∈t.vals,v.s.size≤1048576) (hsb : ∀t∈b,∀v∈t.vals,v.s.size≤1048576) (hT:TabW w) :
  Calls Tryz.prog 4 #[v0,v1,v2,.int .i64 pred] w fun e w'=>e = .returned (.bool true)∧Ext w w':=by
 have TA:=Lib.hid s0
 have TB:=Lib.hid s1
 have HE:=Lib.hid s2
 obtain⟨p0,q0,rfl,_⟩:=s0.form
 obtain⟨p1,q1,rfl,_⟩:=s1.form
 obtain⟨p2,q2,rfl,_⟩:=s2.form
 obtain⟨na,hna⟩ : ∃n,n=a.length:=⟨_,rfl⟩
 obtain⟨nb,hnb⟩ : ∃n,n=b.length:=⟨_,rfl⟩
 obtain⟨ne,hne⟩ : ∃n,n=es.length:=⟨_,rfl⟩
 rw [←hna]at TA ⊢
 rw [←hnb]at TB ⊢
 rw [←hne]at HE ⊢
 have HT:=Lib.hid hT
 have HS:=Lib.hid (And.intro hsa hsb)
 clear s0 s1 s2 hna hnb hne hT hsa hsb
 go_enter Tryz.func4,Tryz.ntmps4
 go_wp2_with fail
 refine(few_any _ _ _ a b es _ TA.out TB.out HE.out).mono ?_
 rintro e w1 ⟨r,rfl,hr,rfl⟩
 cases r
 ·clear hr
  go_wp2_with fail
  refine(awake_join _ HT.out).mono ?_
  rintro e w2 ⟨rfl,x2⟩
  have X2:=Lib.hid x2
  clear x2
  go_wp2_with fail
  go_ret
  exact⟨rfl,X2.out⟩
 ·obtain⟨h1,h2,h3⟩:=hr rfl
  have HFA:=Lib.hid (fewN_T h1 HS.out.1)
  have HFB:=Lib.hid (fewN_T h2 HS.out.2)
  have HL:=Lib.hid (And.intro h1.1 (And.intro h2.1 h3))
  clear hr h1 h2 h3
  go_wp2_with fail
  refine(refBinary_any 4 0 (-1) (.inl ⟨rfl,rfl⟩) _ _ a b _ es pred _ TA.out TB.out HL.out.1 HL.out.2.1 HE.out (by have:=HL.out.2.2;omega) HFA.out HFB.out).mono ?_
  rintro e w2 ⟨v3,rfl,t3,x3⟩
  obtain⟨tr,htr⟩ : ∃tr,tr=trE es pred:=⟨_,rfl⟩
  rw [←htr,show refJ tr (-1)=snapJoin tr from funext fun A=>funext fun B=>refJ_inner tr A B,refBin_inner]at t3
  have HTR:=Lib.hid htr
  obtain⟨J,hJ⟩ : ∃J,J=innerT tr a b:=⟨_,rfl⟩
  rw [←hJ]at t3
  have HJ:=Lib.hid hJ
  obtain⟨p3,q3,rfl,_⟩:=t3.form
  obtain⟨nj,hnj⟩ : ∃n,n=J.length:=⟨_,rfl⟩
  rw [←hnj]at t3 ⊢
  have T3:=Lib.hid t3
  have HNJ:=Lib.hid hnj
  have X3:=Lib.hid x3
  replace TA:=Lib.hid (TA.out.ext x3.full)
  replace TB:=Lib.hid (TB.out.ext x3.full)
  replace HE:=Lib.hid (HE.out.ext x3.full)
  clear t3 x3 htr hJ hnj
  go_wp2_with fail
  refine(awake_join _ (HT.out.ext X3.out)).mono ?_
  rintro e w4 ⟨rfl,x4⟩
  have X4:=Lib.hid (X3.out.trans x4)
  replace TA:=Lib.hid (TA.out.ext x4.full)
  replace TB:=Lib.hid (TB.out.ext x4.full)
  replace HE:=Lib.hid (HE.out.ext x4.full)
  replace T3:=Lib.hid (T3.out.ext x4.full)
  clear x4 X3
  go_wp2_with fail
  refine(inner_any _ _ a b _ es pred _ TA.out TB.out (by have:=HL.out;omega) (by have:=HL.out;omega) HE.out (by have:=HL.out;omega) HFA.out HFB.out (HT.out.ext X4.out)).mono ?_
  rintro e w5 ⟨v5,rfl,t5,x5⟩
  rw [←HTR.out,←HJ.out]at t5
  obtain⟨p5,q5,rfl,_⟩:=t5.form
  rw [←HNJ.out]at t5 ⊢
  have T5:=Lib.hid (t5.ext (on_sub _ _))
  have X5:=Lib.hid (X4.out.trans x5)
  replace TA:=Lib.hid (TA.out.ext x5.full)
  replace TB:=Lib.hid (TB.out.ext x5.full)
  replace HE:=Lib.hid (HE.out.ext x5.full)
  replace T3:=Lib.hid (T3.out.ext x5.full)
  clear t5 x5 X4
  go_wp2_with fail
  refine(same_tuples _ _ J _ T5.out T3.out).mono ?_
  rintro e w6 ⟨rfl,x6⟩
  have X6:=Lib.hid (X5.out.trans x6)
  replace TA:=Lib.hid (TA.out.ext x6.full)
  replace TB:=Lib.hid (TB.out.ext x6.full)
  replace HE:=Lib.hid (HE.out.ext x6.full)
  replace T3:=Lib.hid (T3.out.ext x6.full)
  clear x6 X5 T5
  go_wp2_with fail
  refine(innerAligned_any _ _ a b _ es pred _ TA.out TB.out HL.out.1 HL.out.2.1 HE.out (by have:=HL.out;omega) HFA.out HFB.out (HT.out.ext X6.out)).mono ?_
  rintro e w7 ⟨v7,rfl,t7,x7⟩
  rw [←HTR.out,←HJ.out]at t7
  obtain⟨p7,q7,rfl,_⟩:=t7.form
  rw [←HNJ.out]at t7 ⊢
  have T7:=Lib.hid (t7.ext (on_sub _ _))
  have X7:=Lib.hid (X6.out.trans x7)
  replace T3:=Lib.hid (T3.out.ext x7.full)
  clear t7 x7 X6 TA TB HE
  go_wp2_with fail
  refine(same_tuples _ _ J _ T7.out T3.out).mono ?_
  rintro e w8 ⟨rfl,x8⟩
  have X8:=Lib.hid (X7.out.trans x8)
  clear x8 X7
  go_wp2_with fail
  go_ret
  exact⟨by simp,X8.out⟩
set_option maxRecDepth 100000 in
set_option maxHeartbeats 4000000 in
theorem JoinLeftOuter_walk (v0:Value) (a:List Tup) (v1:Value) (b:List Tup) (v2:Value) (es:List ExprI) (pred width:Int) {w:World} (s0:SliceOf Rep.tup w.cell? v0 a) (s1:SliceOf Rep.tup w.cell? v1 b) (s2:SliceOf Rep.expr w.cell? v2 es)
  (_:(Lit.int .i64 pred).wf=true) (_:(Lit.int .i64 width).wf=true) (hsa : ∀t∈a,∀v∈t.vals,v.s.size≤1048576) (hsb : ∀t∈b,∀v∈t.vals,v.s.size≤1048576) (hT:TabW w) :
  Calls Tryz.prog 5 #[v0,v1,v2,.int .i64 pred,.int .i64 width] w fun e w'=>e = .returned (.bool true)∧Ext w w':=by
 have TA:=Lib.hid s0
 have TB:=Lib.hid s1
 have HE:=Lib.hid s2
 obtain⟨p0,q0,rfl,_⟩:=s0.form
 obtain⟨p1,q1,rfl,_⟩:=s1.form
 obtain⟨p2,q2,rfl,_⟩:=s2.form
 obtain⟨na,hna⟩ : ∃n,n=a.length:=⟨_,rfl⟩
 obtain⟨nb,hnb⟩ : ∃n,n=b.length:=⟨_,rfl⟩
 obtain⟨ne,hne⟩ : ∃n,n=es.length:=⟨_,rfl⟩
 rw [←hna]at TA ⊢
 rw [←hnb]at TB ⊢
 rw [←hne]at HE ⊢
 have HT:=Lib.hid hT
 have HS:=Lib.hid (And.intro hsa hsb)
 clear s0 s1 s2 hna hnb hne hT hsa hsb
 go_enter Tryz.func5,Tryz.ntmps5
 go_wp2_with fail
 refine(few_any _ _ _ a b es _ TA.out TB.out HE.out).mono ?_
 rintro e w1 ⟨r,rfl,hr,rfl⟩
 cases r
 ·clear hr
  go_wp2_with fail
  refine(awake_join _ HT.out).mono ?_
  rintro e w2 ⟨rfl,x2⟩
  have X2:=Lib.hid x2
  clear x2
  go_wp2_with fail
  go_ret
  exact⟨rfl,X2.out⟩
 ·obtain⟨h1,h2,h3⟩:=hr rfl
  have HFA:=Lib.hid (fewN_T h1 HS.out.1)
  have HFB:=Lib.hid (fewN_T h2 HS.out.2)
  have HL:=Lib.hid (And.intro h1.1 (And.intro h2.1 h3))
  clear hr h1 h2 h3
  go_wp2_with fail
  refine(awake_join _ HT.out).mono ?_
  rintro e w4 ⟨rfl,x4⟩
  have X4:=Lib.hid x4
  replace TA:=Lib.hid (TA.out.ext x4.full)
  replace TB:=Lib.hid (TB.out.ext x4.full)
  replace HE:=Lib.hid (HE.out.ext x4.full)
  clear x4
  go_wp2_with fail
  refine(leftOuter_any _ _ a b _ es pred width _ TA.out TB.out (by have:=HL.out;omega) (by have:=HL.out;omega) HE.out (by have:=HL.out;omega) HFA.out HFB.out (HT.out.ext X4.out)).mono ?_
  rintro e w5 ⟨v5,rfl,t5,x5⟩
  obtain⟨tr,htr⟩ : ∃tr,tr=trE es pred:=⟨_,rfl⟩
  rw [←htr]at t5
  have HTR:=Lib.hid htr
  obtain⟨J,hJ⟩ : ∃J,J=leftT tr (nullW width) a b:=⟨_,rfl⟩
  rw [←hJ]at t5
  have HJ:=Lib.hid hJ
  obtain⟨p5,q5,rfl,_⟩:=t5.form
  obtain⟨nj,hnj⟩ : ∃n,n=J.length:=⟨_,rfl⟩
  rw [←hnj]at t5 ⊢
  have HNJ:=Lib.hid hnj
  have T5:=Lib.hid (t5.ext (on_sub _ _))
  have X5:=Lib.hid (X4.out.trans x5)
  replace TA:=Lib.hid (TA.out.ext x5.full)
  replace TB:=Lib.hid (TB.out.ext x5.full)
  replace HE:=Lib.hid (HE.out.ext x5.full)
  clear t5 x5 X4 htr hJ hnj
  go_wp2_with fail
  refine(refBinary_any 5 width (min (max width 0) 64) (.inr ⟨rfl,rfl⟩) _ _ a b _ es pred _ TA.out TB.out HL.out.1 HL.out.2.1 HE.out (by have:=HL.out.2.2;omega) HFA.out HFB.out).mono ?_
  rintro e w6 ⟨v6,rfl,t6,x6⟩
  have hnw:min (max width 0) 64=((nullW width:Nat):Int):=by unfold nullW;omega
  rw [←HTR.out,hnw,show refJ tr ((nullW width:Nat):Int)=snapLeft tr (nullW width)from funext fun A=>funext fun B=>refJ_left tr (nullW width) A B,refBin_left,←HJ.out]at t6
  obtain⟨p6,q6,rfl,_⟩:=t6.form
  rw [←HNJ.out]at t6 ⊢
  have T6:=Lib.hid t6
  have X6:=Lib.hid (X5.out.trans x6)
  replace T5:=Lib.hid (T5.out.ext x6.full)
  clear t6 x6 X5 TA TB HE hnw
  go_wp2_with fail
  refine(same_tuples _ _ J _ T5.out T6.out).mono ?_
  rintro e w8 ⟨rfl,x8⟩
  have X8:=Lib.hid (X6.out.trans x8)
  clear x8 X6
  go_wp2_with fail
  go_ret
  exact⟨by simp,X8.out⟩
end Go.Proofs.YtkddkbpoefidpaaGreatDoor
namespace Go.Proofs.YtkddkbpoefidpaaGreatDoor
open Go.ChangeShapes Go.RowKit
def laid3:List (String×DataW Unit):= [("math/bits.deBruijn32tab",Rows.laid_math_bits_deBruijn32tab),("math/bits.deBruijn64tab",Rows.laid_math_bits_deBruijn64tab),("internal/strconv.uint64pow10",Rows.laid_internal_strconv_uint64pow10)]
theorem door_met3 (os:Os) (args:Array Value):laidMetH Tryz.prog laid3 ((World.doorLaid Tryz.prog 29 os).forCall (fun _ _=>0) ⟨#[],args,[]⟩).memory :=
 laidMetH_of_parts3 (fuel:=8) (laidMet_of_run' 8 (by kernel_rfl) (by kernel_rfl)) (by kernel_rfl) (by kernel_rfl)
set_option maxRecDepth 100000 in
theorem of_laid3 {W:World} (h:laidMetH Tryz.prog laid3 W):TabW W:=by
 rw [MakeChecks.laidMetH_plain _ _ _ (by kernel_rfl)]at h
 have h3:=laidMet.tail (laidMet.tail h)
 exact Lib.tabIs_of_head (k:= .u64) (zs:=Lib.pow10Tab) (g:=1) (t:=348) (e:=291) (n:=20) (by kernel_rfl) (by kernel_rfl) Tryz.underlying348 Tryz.underlying291 (by kernel_rfl) (by kernel_rfl) h3
end Go.Proofs.YtkddkbpoefidpaaGreatDoor
namespace Go.Proofs.YtkddkbpoefidpaaGreatDoor
open Go.RowKit Go.Deep Go.ChangeShapes Go.WideShapes Go.ChangeAt
def OpensB {α:Type} (P:Program) (t:TypeId) (R:Rep α) (φ:Nat→α→Prop):Prop :=
 ∀(H:Type) (enc:TypeId×Value→H) (w:World) (base:Nat) (spare:Nat→Bool) (held:Bool) (fuel:Nat) (cs:List Value) (x:DataW H×List MemPlace),
  DataW.trod enc P w base spare held fuel t cs=some x→ ∃y,R.holds w.cell? cs y∧φ (Rows.uptoBulk x.1) y
theorem bulk_part {H:Type} {d:DataW H} {l:List (DataW H)} (h:d∈l):Rows.uptoBulk d≤Rows.uptoBulkAll l:=by
 induction l with
 |nil=>cases h
 |cons x r ih =>
  simp only [Rows.uptoBulkAll]
  cases List.mem_cons.1 h with
  |inl e=>subst e;omega
  |inr e=>have:=ih e;omega
theorem repAll_ofB {α:Type} (R:Rep α) (h:View) (p:Nat→List Value→Prop) (q:α→Prop) (n:Nat) (hp : ∀i,i<n→ ∃cs y,R.holds h cs y∧p i cs∧q y) :
  ∃css ys,css.length=n∧RepAll R h css ys∧(∀i c,css[i]?=some c→p i c)∧ ∀y∈ys,q y:=by
 induction n with
 |zero=>exact⟨[],[],rfl,trivial,(fun i c hc=>by simp at hc),fun y hy=>by cases hy⟩
 |succ n ih =>
  obtain⟨css,ys,h1,h2,h3,h0⟩:=ih fun i hi=>hp i (by omega)
  obtain⟨c,y,h4,h5,h6⟩:=hp n (by omega)
  refine⟨css ++ [c],ys ++ [y],by simp [h1],h2.append (RepAll.one h4),fun i d hd=> ?_,fun z hz=> ?_⟩
  ·by_cases hi:i<css.length
   ·rw [List.getElem?_append_left hi]at hd
    exact h3 i d hd
   ·rw [List.getElem?_append_right (by omega)]at hd
    have:i=n:=by
     have:=(List.getElem?_eq_some_iff.1 hd).1
     simp at this
     omega
    subst this
    rw [h1,Nat.sub_self]at hd
    simp at hd
    subst hd
    exact h5
  ·rcases List.mem_append.1 hz with hz | hz
   ·exact h0 z hz
   ·rw [List.mem_singleton]at hz;subst hz;exact h6
theorem opensB_slice {α:Type} {P:Program} {t e:TypeId} {R:Rep α} {φ:Nat→α→Prop} (hφ : ∀m n y,m≤n→φ m y→φ n y) (ht:P.underlying t=some (.slice e)) (hc:P.cellsOf e=R.size) (hR:OpensB P e R φ):OpensB P t R.slice fun n ys=> ∀y∈ys,φ n y:=by
 intro H enc w base spare held fuel cs x h
 rcases open_slice ht h with ⟨rfl,_⟩ | ⟨a,len,cap,m,n,D,Pl,rfl,hb,hl,hm,hmm,hxe,hx⟩
 ·exact⟨[],⟨_,rfl,SliceOf.nil R _⟩,fun y hy=>by cases hy⟩
 ·have hlm:len≤m:=by rw [hmm];split <;> omega
  have hbulk : ∀i,i<len→Rows.uptoBulk (D i)≤Rows.uptoBulk x.1:=fun i hi=>by
   rw [hxe]
   simp only [Rows.uptoBulk]
   have:=bulk_part (H:=H) (d:=D i) (l:=(List.range len).map D) (List.mem_map.2 ⟨i,List.mem_range.2 hi,rfl⟩)
   omega
  obtain⟨css,ys,h1,h2,h3,h0⟩:=repAll_ofB R w.cell? (fun i cs'=>w.cells? base (a.add (i*P.cellsOf e)) (P.cellsOf e)=some cs') (φ (Rows.uptoBulk x.1)) len fun i hi=>by
   obtain⟨cs',g1,g2⟩:=hx i (by omega)
   obtain⟨y,hy,hq⟩:=hR H enc w base spare held n cs' _ g2
   exact⟨cs',y,hy,g1,hφ _ _ _ (hbulk i hi) hq⟩
  have hlen:ys.length=len:=by rw [←h2.length,h1]
  refine⟨ys,⟨_,rfl,css,h2,?_⟩,h0⟩
  rw [hlen]
  refine .inr ⟨a,cap,rfl,hl,hm,?_⟩
  have hcell : ∀j u,css.flatten[j]?=some u→w.cell? (a.add j)=some u:=by
   intro j u hj
   obtain⟨i,r,c,g1,g2,g3⟩:=flat_at (repAll_len h2) j u hj
   obtain⟨_,g5,g6⟩:=World.cells?_some (h3 i c g1)
   have hr:r<P.cellsOf e:=by rw [←g5];exact(List.getElem?_eq_some_iff.1 g2).1
   have:=g6 r hr
   rw [g2,Addr.add_add,hc,←g3]at this
   exact this
  by_cases hne:css.flatten = []
  ·exact .inl hne
  ·right
   obtain⟨u,us,hu⟩:=List.exists_cons_of_ne_nil hne
   have h0:=hcell 0 u (by rw [hu];rfl)
   obtain⟨b,o,sp⟩:=a
   have hsp:sp=none:=by
    cases sp with
    |none=>rfl
    |some s=>simp [World.cell?,Addr.add]at h0;split at h0 <;> simp at h0
   subst hsp
   exact⟨b,o,rfl,fun j u hj=>by have:=hcell j u hj;rwa [add_lit]at this⟩
theorem opensB_val:OpensB Tryz.prog 73 Rep.val fun n v=>v.s.size≤n:=by
 intro H enc w base spare held fuel cs x h
 obtain⟨y0,y1,y2,n,hxe,hl,h0,h1,h2⟩:=trod_struct3 Tryz.underlying73 h
 rw [cellsVal]at hl
 obtain⟨c0,c1,c2,rfl⟩:=list_three hl
 simp [cellsInt,cellsInt64,cellsStr]at h0 h1 h2
 obtain⟨a0,e0,_,w0⟩:=DataW.trod_int Tryz.underlying3 h0
 obtain⟨a1,e1,_,w1⟩:=DataW.trod_int Tryz.underlying2 h1
 obtain⟨a2,e2,ey,w2⟩:=DataW.trod_string Tryz.underlying9 h2
 simp at e0 e1 e2
 subst e0 e1 e2
 refine⟨⟨a0,a1,a2⟩,⟨rfl,wf_i64 w0,wf_i64 w1,w2⟩,?_⟩
 rw [hxe,ey]
 simp only [Rows.uptoBulk,Rows.uptoBulkAll]
 have:a2.data.toList.length=a2.size:=by rw [Array.length_toList];rfl
 omega
theorem opensB_vals:OpensB Tryz.prog 68 (Rep.slice Rep.val) fun n vs=> ∀v∈vs,v.s.size≤n:=opensB_slice (fun _ _ _ h k=>Nat.le_trans k h) Tryz.underlying68 cellsVal opensB_val
theorem opensB_tup:OpensB Tryz.prog 96 Rep.tup fun n t=> ∀v∈t.vals,v.s.size≤n:=by
 intro H enc w base spare held fuel cs x h
 obtain⟨y0,y1,y2,n,hxe,hl,h0,h1,h2⟩:=trod_struct3 Tryz.underlying96 h
 rw [cellsTup]at hl
 obtain⟨c0,c1,c2,c3,rfl⟩:=list_fourT hl
 simp [cellsVals,cellsPer,cellsInts]at h0 h1 h2
 obtain⟨xs,⟨v,e0,s0⟩,hb⟩:=opensB_vals H enc w base spare held n _ _ h0
 obtain⟨z0,z1,m,_,_,g0,g1⟩:=trod_struct2 Tryz.underlying94 h1
 simp [cellsInt]at g0 g1
 obtain⟨a0,e1,_,w0⟩:=DataW.trod_int Tryz.underlying3 g0
 obtain⟨a1,e2,_,w1⟩:=DataW.trod_int Tryz.underlying3 g1
 obtain⟨ys,u,e3,s1⟩:=opens_ints H enc w base spare held n _ _ h2
 simp at e0 e1 e2 e3
 subst e0 e1 e2 e3
 refine⟨⟨xs,a0,a1,ys⟩,⟨_,_,rfl,s0,s1,wf_i64 w0,wf_i64 w1⟩,fun v hv=>Nat.le_trans (hb v hv) ?_⟩
 rw [hxe]
 simp only [Rows.uptoBulk,Rows.uptoBulkAll]
 omega
theorem opensB_tups:OpensB Tryz.prog 22 (Rep.slice Rep.tup) fun n ts=> ∀t∈ts,∀v∈t.vals,v.s.size≤n:=opensB_slice (fun _ _ _ h k v hv=>Nat.le_trans (k v hv) h) Tryz.underlying22 cellsTup opensB_tup
theorem open_argB {α:Type} {P:Program} {t e:TypeId} {R:Rep α} {φ:Nat→List α→Prop} (ht:P.underlying t=some (.slice e)) (hR:OpensB P t (Rep.slice R) φ) {H:Type} {enc:TypeId×Value→H} {w:World} {base:Nat} {spare:Nat→Bool} {held:Bool} {v:Value} {d:DataW H} {ps:List MemPlace} {r:Reach} {b0:Nat}
  (hv:Value.okWide P w r b0 t v) (h:DataW.Trod enc P w base spare held t v d ps) : ∃xs,SliceOf R w.cell? v xs∧φ (Rows.uptoBulk d) xs:=by
 obtain⟨a,n,c,rfl⟩:=okWide_slice ht hv
 obtain⟨m,hm⟩:=h
 obtain⟨xs,⟨v',e,hs⟩,hb⟩:=hR H enc w base spare held m _ _ hm
 simp [Value.cells]at e
 subst e
 exact⟨xs,hs,hb⟩
end Go.Proofs.YtkddkbpoefidpaaGreatDoor
namespace Go.Proofs.YtkddkbpoefidpaaGreatDoor
open Go.RowKit Go.Deep Go.ChangeShapes Go.WideShapes Go.ChangeAt
end Go.Proofs.YtkddkbpoefidpaaGreatDoor
