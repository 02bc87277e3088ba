/- joined texts of a proof: GrpW, ShelfC, StabX, PairA, HeapQ, StabC, StabY, PairX, Open, DepthX, NormA -/
import Derived.Test.YtombmdaohcjokaaGreatDoorKG07
import Derived.Test.YtombmdaohcjokaaGreatDoorKG08
import Derived.Deep.DeepCutAuto
import Derived.Laws.OwnMore
import Derived.Ground.SlsfProg
import Derived.Shelf.SlSortCmp.WholeK
import Derived.Shelf.Spec.SlicesGrow
import Derived.Ground.Names8Prog
import Derived.Test.YtombmdaohcjokaaGreatDoorProg
import Derived.Test.YtombmdaohcjokaaGreatDoorKG02
import Derived.Test.YtombmdaohcjokaaGreatDoorKG14
import Derived.Shelf.SlSortCmp.PdqK
import Derived.Test.YtombmdaohcjokaaGreatDoorKG05
import Derived.OneCell
import Derived.Test.YtombmdaohcjokaaGreatDoorKG04
import Derived.Test.YtombmdaohcjokaaGreatDoorKG01
import Derived.Shelf.SlSortCmp.QuietGrown
import Derived.Shelf.SlSortCmp.NoneTotal
import Derived.Test.YtombmdaohcjokaaGreatDoorKG03
import Derived.ProofKit
import Derived.OpenShut
import Derived.Deep.Strs
import Derived.Lib.SmallJoins
import Derived.Maps.Own
import Derived.Maps.OwnOps
import Derived.Maps.RangeWalk
import Derived.Maps.Views
namespace Go.Proofs.YtombmdaohcjokaaGreatDoor
open Go.RowKit Go.Maps
theorem proj_len (es:List ExprI) (keys:List Int) (vals:List Val):(projC es keys vals).length=keys.length:=List.length_map _
theorem proj_fit (es:List ExprI) (keys:List Int) {vals:List Val} (h : ∀v∈vals,v.s.size≤1048576) : ∀v∈projC es keys vals,v.s.size≤1048576:=fun v hv=>by
 obtain⟨k,_,rfl⟩:=List.mem_map.1 hv
 unfold colAt
 split
 ·rename_i c
  rw [List.getD_eq_getElem?_getD]
  cases hg:vals[((es.map ExprI.col).getD k.toNat 0).toNat]? with
  |none=>exact Nat.zero_le _
  |some x=>exact h x (List.mem_of_getElem? hg)
 ·exact Nat.zero_le _
theorem keyG_len {h1:View} {v:Value} {vs:List Val} (k:SliceOf Rep.val h1 v vs) (hl:vs.length≤1000) (hf : ∀x∈vs,x.s.size≤1048576):(keyVals vs).length≤maxLen:=by
 have h2:=keyVals_len (vals_range k) hf
 unfold maxLen
 omega
theorem zero_slT (w:World):(zeroValue 85).run Tryz.prog w = .ok (.slice none 0 0) w:=by kernel_rfl
theorem own_day (w:World) (S:Nat→Prop) {base:Nat} (hb:base≤w.heap.size) (T:TypeId):OwnOf Rep.tup (w.alloc (.cells #[.slice none 0 0,.int .i64 0,.int .i64 1000000,.slice none 0 0] T)) S base T (.slice (some ⟨w.heap.size,0,none⟩) 1 1) [dayT] :=
 ⟨[[.slice none 0 0,.int .i64 0,.int .i64 1000000,.slice none 0 0]],⟨⟨_,_,rfl,SliceOf.nil _ _,SliceOf.nil _ _,by unfold dayT;dsimp only;omega,by unfold dayT;dsimp only;omega⟩,trivial⟩,World.ownsRow_lit w _ 1 hb (by simp [maxLen]) rfl⟩
theorem zero_slV (w:World):(zeroValue 56).run Tryz.prog w = .ok (.slice none 0 0) w:=by kernel_rfl
structure RawSl where
 p:Option Addr
 n:Nat
 c:Nat
def mkSl (c:RawSl):Value:= .slice c.p c.n c.c
theorem sl_mk {v:Value} (h:ShSl v) : ∃c,v=mkSl c:=by
 obtain⟨p,n,c,rfl⟩:=h
 exact⟨⟨p,n,c⟩,rfl⟩
def RowLaw (w:World) (ve va:Value) (l:List Tup) (K:Nat) (aggV:List (List Val)→List Val):Prop :=
 ∀(G:Nat) (kv:Value) (key:List Val) (tv:Value) (ms:List Tup) (t:Int) (w1:World),Ext w w1→w1.cell? ⟨G,0,none⟩=some ve→w1.cell? ⟨G,1,none⟩=some va→SliceOf Rep.val w1.cell? kv key→key.length=K→SliceOf Rep.tup w1.cell? tv ms→ms.length≤l.length→(∀m∈ms,∃u∈l,m.vals=u.vals∧m.lin=u.lin) →
  Calls Tryz.prog 83 #[.pointer (some ⟨G,0,none⟩),kv,tv,.int .i64 t] w1 fun e w'=> ∃a b,e = .returned (.tuple #[.agg #[a,b],.bool (decide (0<(memV ms t).length))])∧SliceOf Rep.val (on w' (since w1)) a (gRow aggV key ms t).vals∧SliceOf Rep.int (on w' (since w1)) b (gRow aggV key ms t).lin∧Ext w1 w'
set_option maxRecDepth 100000 in
set_option maxHeartbeats 16000000 in
theorem group_any (v:Value) (l:List Tup) (ve:Value) (es:List ExprI) (kv:Value) (keys:List Int) (va:Value) (aggV:List (List Val)→List Val) (w:World)
  (hv:SliceOf Rep.tup w.cell? v l) (hl:l.length≤400) (hf : ∀t∈l,fitVals t.vals∧t.lin.length≤256)
  (he:SliceOf Rep.expr w.cell? ve es) (hcol : ∀e∈es,e.op=2) (hel:es.length≤1000)
  (hk:SliceOf Rep.int w.cell? kv keys) (hkr : ∀k∈keys,0≤k∧k<es.length) (hkl:keys.length≤1000)
  (hva:ShSl va) (hrow:RowLaw w ve va l keys.length aggV) (hfit : ∀vss,(∀vs∈vss,∃u∈l,vs=u.vals)→(aggV vss).length≤1000∧ ∀x∈aggV vss,x.s.size≤1048576)
  (ht:TabW w) (hD:DaysW w) :
  Calls Tryz.prog 43 #[v,ve,kv,va] w fun e w'=> ∃v',e = .returned v'∧SliceOf Rep.tup (on w' (since w)) v' (aggT (projC es keys) aggV (decide (keys.length=0)) l)∧Ext w w':=by
 obtain⟨i1,hi1,hz10,hz11,hz12⟩:=info_parts info_ints
 obtain⟨i2,hi2,hz20,hz21,hz22⟩:=info_parts info_tupN
 have hmm:= @run_makeMap Tryz.prog
 obtain⟨pe,ce,rfl,_⟩:=he.form
 obtain⟨pk,ck,rfl,_⟩:=hk.form
 obtain⟨pa,na,ca,rfl⟩:=hva
 obtain⟨p,cap,rfl,hc1,hc2,hp⟩:=hv.form
 obtain⟨K,hK⟩ : ∃K,K=keys.length:=⟨_,rfl⟩
 obtain⟨B,hB⟩ : ∃B,B=w.heap.size:=⟨_,rfl⟩
 obtain⟨proj,hproj⟩ : ∃f,f=projC es keys:=⟨_,rfl⟩
 have HV:=Lib.hid hv
 have HL:=Lib.hid hl
 have HF:=Lib.hid hf
 have HE:=Lib.hid (And.intro he (And.intro hcol hel))
 have HKS:=Lib.hid (And.intro hk (And.intro hkr hkl))
 have HROW:=Lib.hid hrow
 have HFIT:=Lib.hid hfit
 have HT:=Lib.hid (And.intro ht hD)
 have HB:=Lib.hid hB
 have HPR:=Lib.hid hproj
 have HPL:=Lib.hid (show ∀vs,(proj vs).length=K from fun vs=>by rw [hproj,proj_len,hK])
 have HK:=Lib.hid hK
 have hK1:K≤1000:=by omega
 rw [←hK,←hproj]
 clear hv hl hf he hcol hel hk hkr hkl hrow hfit ht hD hc1 hc2 hp hproj hK
 go_enter Tryz.func43,Tryz.ntmps43
 go_upto_if 31 with fail
 rw [←hB]
 have hM1:=MapV.made (w.alloc (.cells #[.slice pe es.length ce,.slice pa na ca] 136)) Tryz.prog 9 ShSl
 have hM2:=MapV.made ((w.alloc (.cells #[.slice pe es.length ce,.slice pa na ca] 136)).alloc (.map #[] 0)) Tryz.prog 9 ShSl
 rw [show (w.alloc (.cells #[.slice pe es.length ce,.slice pa na ca] 136)).heap.size=B+1 by simp [hB]]at hM1
 rw [show ((w.alloc (.cells #[.slice pe es.length ce,.slice pa na ca] 136)).alloc (.map #[] 0)).heap.size=B+2 by simp [hB]]at hM2
 rw [show B+2=B+1+1 from rfl]at hM2
 go_cut [] (fun wx=>Hid (MapV wx Tryz.prog 9 ShSl (B+1) 0 (fun _=>none))∧Hid (MapV wx Tryz.prog 9 ShSl (B+1+1) 1 (m2Start K))∧Hid (wx.cell? ⟨B,0,none⟩=some (.slice pe es.length ce)∧wx.cell? ⟨B,1,none⟩=some (.slice pa na ca))∧Hid (B+3≤wx.heap.size)∧Hid (Ext w wx))
 case first =>
  have hG:(((w.alloc (.cells #[.slice pe es.length ce,.slice pa na ca] 136)).alloc (.map #[] 0)).alloc (.map #[] 0)).cell? ⟨B,0,none⟩=some (.slice pe es.length ce):=by rw [hB];go_simp
  have hG1:(((w.alloc (.cells #[.slice pe es.length ce,.slice pa na ca] 136)).alloc (.map #[] 0)).alloc (.map #[] 0)).cell? ⟨B,1,none⟩=some (.slice pa na ca):=by rw [hB];go_simp
  have hX:Ext w (((w.alloc (.cells #[.slice pe es.length ce,.slice pa na ca] 136)).alloc (.map #[] 0)).alloc (.map #[] 0)):=(((Ext.refl w).alloc _).alloc _).alloc _
  have hS:(((w.alloc (.cells #[.slice pe es.length ce,.slice pa na ca] 136)).alloc (.map #[] 0)).alloc (.map #[] 0)).heap.size=B+3:=by rw [hB];simp
  have M1:=Lib.hid (hM1.alloc (.map #[] 0))
  have M2:=Lib.hid hM2
  have G0:=Lib.hid hG
  have G1:=Lib.hid hG1
  have X0:=Lib.hid hX
  have S0:=Lib.hid hS
  clear hM1 hM2 hG hG1 hX hS
  by_cases hK0:K=0
  ·have hKd:((K:Int)==0)=true:=by simp [hK0]
   have HK0:=Lib.hid hK0
   rw [hKd]
   clear hB hK0 hKd
   go_wp2_with (at_mapUpdate;go_loud (refine wpList_store_v _ rfl _ _ _ 138 rfl 9 85 (string_keyed Tryz.underlying9) Tryz.underlying138 ShSl (B+1+1) 0 _ rfl M2.out (by decide) _ _ (keyG []) rfl rfl (key_str [] (Nat.zero_le _)) ⟨_,_,_,rfl⟩ ?_))
   intro w' m' gr'
   have hr : ∀x,(some (B+1+1):Option Nat)=some x→x=B+1+1:=fun x e=>(Option.some.inj e).symm
   have M3:=Lib.hid m'
   have GR:=Lib.hid gr'
   clear m' gr'
   go_wp2_with fail
   go_meet
   exact⟨M1.out.kept GR.out (by simp),by unfold m2Start;rw [if_pos HK0.out];exact M3.out,⟨cell_grown GR.out G0.out (fun k e=>by have:=hr k e;omega),cell_grown GR.out G1.out (fun k e=>by have:=hr k e;omega)⟩,by have h1:=GR.out.size;have h2:=S0.out;show B+3≤_;omega,ext_grown X0.out GR.out (fun k e=>by have:=hr k e;have:=HB.out;omega)⟩
  ·have hKd:((K:Int)==0)=false:=by simp;omega
   have HK0:=Lib.hid hK0
   clear hB hK0
   go_wp2_with fail
   go_meet
   exact⟨M1.out,by unfold m2Start;rw [if_neg HK0.out];exact M2.out.mono (by omega),⟨G0.out,G1.out⟩,Nat.le_of_eq S0.out.symm,X0.out⟩
 case rest =>
  obtain⟨M1,M2,GC,HSZ,HX⟩:=hcut
  clear hM1 hM2 hB
  go_wp2_with fail
  refine(clip_any _ l _ (fun x=>x<B) (fun x hx=>by have:=HSZ.out;omega) (HV.out.ext (fun p u e=>on_some.2 ⟨by rw [HB.out];exact World.block_lt_of_cell? w p e,HX.out.at e⟩)) (by have:=HL.out;omega) (HT.out.2.ext HX.out)).mono ?_
  rintro e w2 ⟨vc,rfl,own2,x2⟩
  obtain⟨L,hLL⟩ : ∃L,L=clipT l:=⟨_,rfl⟩
  rw [←hLL]at own2
  obtain⟨pc,cc,rfl,hpc⟩:=own2.shapeL
  obtain⟨N,hN⟩ : ∃N,N=L.length:=⟨_,rfl⟩
  obtain⟨B2,hB2⟩ : ∃b,b=w2.heap.size:=⟨_,rfl⟩
  have HLL:=Lib.hid hLL
  have HCF:=Lib.hid (show ∀y∈L,∃u∈l,y.vals=u.vals∧y.lin=u.lin from fun y hy=>clip_from (hLL▸hy))
  have HN:=Lib.hid hN
  have HB2:=Lib.hid hB2
  have hN1:N≤400:=by have:=clip_len l;have:=HL.out;rw [hN,hLL];omega
  have OC:=Lib.hid (show OwnOf Rep.tup w2 (fun x=>x<B) (B+3) 125 (.slice pc N cc) L from by rw [hN];exact own2.weak (fun _ _ h=>h) HSZ.out)
  have HCB:=Lib.hid (show ∀x,(Value.slice pc N cc).ownBlock=some x→B+3≤x∧x<B2 from fun x hx=>by rw [hB2];exact OC.out.lt x hx)
  rw [←hN]
  rw [←hN]at hpc
  have HPC:=Lib.hid hpc
  clear hLL hN hB2 hpc own2
  go_wp2_with fail
  have hT2:TabW w2:=HT.out.1.ext (HX.out.trans x2)
  have HT2:=Lib.hid hT2
  have GC2:=Lib.hid (And.intro (x2.at GC.out.1) (x2.at GC.out.2))
  have HX2:=Lib.hid (HX.out.trans x2)
  have M12:=Lib.hid (M1.out.ext x2)
  have M22:=Lib.hid (M2.out.ext x2)
  have HS2:=Lib.hid (show B+3≤B2 from by have:=HSZ.out;have:=x2.size;have:=HB2.out;omega)
  clear hT2 x2 GC HX M1 M2 HSZ
  go_loopg [36] N (fun gk vi wr=> ∃(k:Nat) (m1 m2:Lit→Option Value) (VB:Nat→Prop),k≤N∧gk=N - k∧vi = .int .i64 k∧Hid (MapV wr Tryz.prog 9 ShSl (B+1) k m1)∧Hid (MapV wr Tryz.prog 9 ShSl (B+1+1) (k+1) m2)∧Hid (GInv proj K wr B B2 125 VB (L.take k) m1 m2)∧Hid (∀x,VB x→B2≤x)∧Hid (OwnOf Rep.tup wr (fun x=>x<B) (B+3) 125 (.slice pc N cc) L)∧Hid (wr.cell? ⟨B,0,none⟩=some (.slice pe es.length ce)∧wr.cell? ⟨B,1,none⟩=some (.slice pa na ca))∧Hid (B2≤wr.heap.size)∧Hid (Ext w wr))
  case atStart=>exact⟨0,_,_,_,by omega,rfl,rfl,M12.out,M22.out,GInv.start proj K _ B B2 _,fun x e=>e.elim,OC.out,GC2.out,Nat.le_of_eq HB2.out,HX2.out⟩
  case round =>
   clear M12 M22 OC GC2 HX2
   obtain⟨k,m1,m2,VB,hk,rfl,rfl,M1,M2,GI,HVB,OC,GC,HSZ,HX⟩:=hrel
   by_cases hlt:k<N
   ·have hkl:k<L.length:=by have:=HN.out;omega
    have hd:decide ((k:Int)<(N:Int))=true:=by simp;omega
    obtain⟨bc,rfl⟩:=HPC.out (by omega)
    obtain⟨ta,tb,c0,c1,c2,c3,g0,g1,r1,r2⟩:=tup_own_at OC.out HN.out k hkl
    obtain⟨pv,kv',ta',_⟩:=g0.form
    obtain⟨pl,kl',tb',_⟩:=g1.form
    subst ta' tb'
    have hst:L.take (k+1)=L.take k ++ [L[k]]:=List.take_succ_eq_append_getElem hkl
    have hft:fitVals L[k].vals:=by
     obtain⟨u,h1,h2,_⟩:=HCF.out _ (List.getElem_mem hkl)
     rw [h2]
     exact(HF.out u h1).1
    generalize L[k]=y at c0 c1 c2 c3 g0 g1 r1 r2 hst hft
    obtain⟨vs,f,t,ln⟩:=y
    dsimp only at c0 c1 c2 c3 g0 g1 r1 r2 hst hft
    have HST:=Lib.hid hst
    have G0:=Lib.hid g0
    have G1:=Lib.hid g1
    have HFT:=Lib.hid hft
    have HR:=Lib.hid (show okI f∧okI t from ⟨r1,r2⟩)
    have e0:=cell_lt c0
    clear hst g0 g1 r1 r2 hft
    go_wp2_with fail
    refine(project_col _ es _ keys _ vs _ (HE.out.1.ext (HX.out.alloc _).full) HE.out.2.1 HE.out.2.2 (by rw [HK.out];exact HKS.out.1.ext (HX.out.alloc _).full) HKS.out.2.1 HKS.out.2.2 (G0.out.ext (fun p u e=>((Ext.refl wr).alloc _).at (on_some.1 e).2))).mono ?_
    rintro e w1 ⟨v1,rfl,own1,x1⟩
    rw [←HPR.out]at own1
    have d0:w1.cell? ⟨wr.heap.size,0,none⟩=some (.slice pv vs.length kv'):=x1.at (by go_simp)
    have d1:w1.cell? ⟨wr.heap.size,1,none⟩=some (.int .i64 f):=x1.at (by go_simp)
    have d2:w1.cell? ⟨wr.heap.size,2,none⟩=some (.int .i64 t):=x1.at (by go_simp)
    have d3:w1.cell? ⟨wr.heap.size,3,none⟩=some (.slice pl ln.length kl'):=x1.at (by go_simp)
    have X1:=Lib.hid (show Ext wr w1 from ((Ext.refl wr).alloc _).trans x1)
    obtain⟨kx,hkx⟩ : ∃x,x=proj vs:=⟨_,rfl⟩
    have HKX:=Lib.hid hkx
    have HKXL:=Lib.hid (show kx.length=K from by rw [hkx];exact HPL.out vs)
    have HKXF:=Lib.hid (show ∀x∈kx,x.s.size≤1048576 from by rw [hkx,HPR.out];exact proj_fit es keys HFT.out.2)
    rw [←hkx]at own1
    obtain⟨p1,k1,rfl,_⟩:=own1.shapeL
    have S1:=Lib.hid own1.slice
    have S1R:=Lib.hid (show SliceOf Rep.val (on w1 (fun x=>wr.heap.size<x∧x<w1.heap.size)) (.slice p1 kx.length k1) kx from (own1.fresh (fun _ _ _ _ h=>h)).ext fun p u e=>by
     obtain⟨h1,h2⟩:=on_some.1 e
     refine on_some.2 ⟨⟨?_,World.block_lt_of_cell? w1 p h2⟩,h2⟩
     simp at h1
     omega)
    obtain⟨ks,hks⟩ : ∃x:ByteArray,x=⟨(keyVals kx).toArray⟩:=⟨_,rfl⟩
    have HKSE:=Lib.hid hks.symm
    have HKS2:=Lib.hid (show keyOf Tryz.prog 9 (.string ks)=some (keyG kx)from by rw [hks];exact key_str _ (keyG_len own1.slice (by rw [HKXL.out];omega) HKXF.out))
    have HKEY:=Lib.hid (show ∀wx,Ext w1 wx→Calls Tryz.prog 81 #[.slice p1 kx.length k1] wx fun e w'=>e = .returned (.string ks)∧Ext wx w' from fun wx hwx=>by
     rw [hks]
     exact key_any _ kx _ (S1.out.ext hwx.full) ⟨by rw [HKXL.out];omega,HKXF.out⟩ (HT.out.1.ext ((HX.out.trans X1.out).trans hwx)))
    have e1:=cell_lt d0
    have HWB:=Lib.hid (show B2≤wr.heap.size∧wr.heap.size<w1.heap.size from ⟨HSZ.out,e1⟩)
    have GI1:=Lib.hid ((GI.out.ext X1.out).more (R:=fun x=>wr.heap.size<x∧x<w1.heap.size) (fun kl v x hm hx e=>by have:=(GI.out.below kl v x hm hx).2;omega) (fun x e=>e.2))
    have HVB1:=Lib.hid (show ∀x,(VB x∨(wr.heap.size<x∧x<w1.heap.size))→B2≤x from fun x e=>by
     rcases e with e | e
     ·exact HVB.out x e
     ·have:=HSZ.out;omega)
    clear hkx hks own1 x1 c0 c1 c2 c3 e0 GI HVB
    go_wp2_with fail
    refine(HKEY.out _ (Ext.refl w1)).mono ?_
    rintro e w3 ⟨rfl,x3⟩
    have X3:=Lib.hid (X1.out.trans x3)
    replace d0:=x3.at d0
    replace d1:=x3.at d1
    replace d2:=x3.at d2
    replace d3:=x3.at d3
    have GI3:=Lib.hid (GI1.out.ext x3)
    have S3:=Lib.hid (S1R.out.ext (x3.sub _))
    have X13:=Lib.hid x3
    clear x3 e1 GI1 X1
    go_wp2_with (at_mapUpdate;go_loud (refine wpList_store_v _ rfl _ _ _ 137 rfl 9 56 (string_keyed Tryz.underlying9) Tryz.underlying137 ShSl (B+1) k m1 rfl (M1.out.ext X3.out) (by unfold maxLen;omega) _ _ (keyG kx) rfl rfl HKS2.out ⟨_,_,_,rfl⟩ ?_))
    intro w4 m4 gr4
    have hr4 : ∀x,(some (B+1):Option Nat)=some x→x=B+1:=fun x e=>(Option.some.inj e).symm
    have M14:=Lib.hid m4
    have M24:=Lib.hid ((M2.out.ext X3.out).kept gr4 (by simp))
    have GI4:=Lib.hid (GI3.out.keep gr4 (fun x e=>⟨by have:=hr4 x e;omega,fun hv=>by have:=HVB1.out x hv;have:=hr4 x e;have:=HS2.out;omega,fun kl v hm ho=>by have:=GI3.out.below kl v x hm ho;have:=hr4 x e;have:=HS2.out;omega⟩))
    have S4:=Lib.hid ((S3.out.chg (chg_grown gr4) (fun x hx e=>by have:=hr4 x e;have:=HWB.out;have:=HS2.out;omega)).ext (on_mono w4 (T:=fun x=>VB x∨(wr.heap.size<x∧x<w1.heap.size)) fun x _ h=> .inr h))
    have hne4 : ∀x,(some (B+1):Option Nat)=some x→x≠wr.heap.size:=fun x e=>by have:=hr4 x e;have:=HWB.out;have:=HS2.out;omega
    replace d0:=cell_grown gr4 d0 hne4
    replace d1:=cell_grown gr4 d1 hne4
    replace d2:=cell_grown gr4 d2 hne4
    replace d3:=cell_grown gr4 d3 hne4
    have OC4:=Lib.hid (own_grown (OC.out.ext X3.out) gr4 (fun x h e=>by have:=hr4 x e;omega) (fun x h e=>by have:=hr4 x e;have:=(HCB.out x h).1;omega))
    have GC4:=Lib.hid (And.intro (cell_grown gr4 (X3.out.at GC.out.1) (fun x e=>by have:=hr4 x e;omega)) (cell_grown gr4 (X3.out.at GC.out.2) (fun x e=>by have:=hr4 x e;omega)))
    have X4:=Lib.hid (ext_grown (HX.out.trans X3.out) gr4 (fun x e=>by have:=hr4 x e;have:=HB.out;omega))
    have HW4:=Lib.hid (show w1.heap.size≤w4.heap.size from Nat.le_trans X13.out.size gr4.size)
    have HKEY4:=Lib.hid (show ∀wx,Ext w4 wx→Calls Tryz.prog 81 #[.slice p1 kx.length k1] wx fun e w'=>e = .returned (.string ks)∧Ext wx w' from fun wx hwx=>by
     have hks:=HKS2.out
     refine(key_any _ kx _ (S4.out.ext fun p u e=>hwx.at (on_some.1 e).2) ⟨by rw [HKXL.out];omega,HKXF.out⟩ (HT.out.1.ext (X4.out.trans hwx))).mono ?_
     rintro e w' ⟨rfl,hx'⟩
     exact⟨by rw [HKSE.out],hx'⟩)
    have own9:=GI4.out.own HKXL.out
    obtain⟨p9,c9,h9,_⟩:=own9.shapeL
    rw [h9]at own9
    obtain⟨pm,hpm⟩ : ∃x,x=memOf proj kx (L.take k):=⟨_,rfl⟩
    rw [←hpm]at own9 h9
    have hpml:pm.length≤400:=by
     have h1:=memOf_len proj kx (L.take k)
     have h2:=List.length_take_le k L
     rw [hpm];omega
    have OW4:=Lib.hid own9
    have HP9:=Lib.hid h9
    have HPM:=Lib.hid hpm
    have B1:pm.length+1≤maxLen:=by unfold maxLen;omega
    have B22:(pm.length+1)*64≤140737488355328:=by omega
    have hgb : ∀x,(Value.slice p9 pm.length c9).ownBlock=some x→B2≤x:=fun x hx=>(OW4.out.lt x hx).1
    have G04:=Lib.hid ((G0.out.ext (X3.out.sub _)).chg (chg_grown gr4) (fun x hx e=>by have:=hr4 x e;omega))
    have G14:=Lib.hid ((G1.out.ext (X3.out.sub _)).chg (chg_grown gr4) (fun x hx e=>by have:=hr4 x e;omega))
    have HH:=Lib.hid (show ∀wx,Ext w4 wx→Rep.tup.holds (on wx (avoid (fun x=>x<B) (.slice p9 pm.length c9))) [.slice pv vs.length kv',.int .i64 f,.int .i64 t,.slice pl ln.length kl'] ⟨vs,f,t,ln⟩from fun wx hwx=>by
     have hs:Sub (on w4 (fun x=>x<B)) (on wx (avoid (fun x=>x<B) (.slice p9 pm.length c9))):=(on_mono w4 fun x _ hx=>⟨fun e=>by have:=hgb x e.symm;have:=HS2.out;omega,hx⟩).trans (hwx.sub _)
     exact⟨_,_,rfl,G04.out.ext hs,G14.out.ext hs,HR.out.1,HR.out.2⟩)
    have e4:=cell_lt d0
    clear hgb G0 G1 G04 G14
    clear m4 gr4 own9 h9 hpm M1 M2 GI3 S3 OC GC HX X3 X13 hne4 hr4 HKEY S1 S1R
    have TAIL:=Lib.hid (show ∀(W7 w8 w9:World) (g8 cap8:Nat),(Ext w4 W7∧OwnOf Rep.tup w8 (fun x=>x<B) B2 125 (.slice (some ⟨g8,0,none⟩) (pm.length+1) cap8) (pm ++ [⟨vs,f,t,ln⟩])∧W7.grownBy w8 (Value.slice p9 pm.length c9).ownBlock∧((Value.slice p9 pm.length c9).ownBlock=some g8∨g8=W7.heap.size)∧MapV w9 Tryz.prog 9 ShSl (B+1+1) (k+1+1) (putV m2 (keyG kx) (.slice (some ⟨g8,0,none⟩) (pm.length+1) cap8))∧w8.grownBy w9 (some (B+1+1))) →
      MapV w9 Tryz.prog 9 ShSl (B+1) (k+1) (putV m1 (keyG kx) (.slice p1 kx.length k1))∧MapV w9 Tryz.prog 9 ShSl (B+1+1) (k+1+1) (putV m2 (keyG kx) (.slice (some ⟨g8,0,none⟩) (pm.length+1) cap8))∧GInv proj K w9 B B2 125 (fun x=>VB x∨(wr.heap.size<x∧x<w1.heap.size)) (L.take (k+1)) (putV m1 (keyG kx) (.slice p1 kx.length k1)) (putV m2 (keyG kx) (.slice (some ⟨g8,0,none⟩) (pm.length+1) cap8))∧OwnOf Rep.tup w9 (fun x=>x<B) (B+3) 125 (.slice (some ⟨bc,0,none⟩) N cc) L∧(w9.cell? ⟨B,0,none⟩=some (.slice pe es.length ce)∧w9.cell? ⟨B,1,none⟩=some (.slice pa na ca))∧B2≤w9.heap.size∧Ext w w9 from by
     rintro W7 w8 w9 g8 cap8 ⟨X7,own8,gr7,hg7,m9,gr9⟩
     have hrow : ∀x,(Value.slice p9 pm.length c9).ownBlock=some x→B2≤x:=fun x hx=>(OW4.out.lt x hx).1
     have hr9 : ∀x,(some (B+1+1):Option Nat)=some x→x=B+1+1:=fun x e=>(Option.some.inj e).symm
     have hS2:=HS2.out
     have hstep:=GInv.step (GI4.out.ext X7) (by omega) HPL.out (t:=⟨vs,f,t,ln⟩) (v1:= .slice p1 kx.length k1) (g:=g8) (a:=pm.length+1) (b:=cap8) (w'':=w8) (by show SliceOf Rep.val _ _ (proj vs);rw [←HKX.out];exact S4.out.ext (X7.sub _)) (by show OwnOf Rep.tup _ _ _ _ _ (memOf proj (proj vs) _++_);rw [←HKX.out,←HPM.out];exact own8) (by show World.grownBy _ _ (Option.getD (m2 (keyG (proj vs))) _).ownBlock;rw [←HKX.out,HP9.out];exact gr7) (by show (Option.getD (m2 (keyG (proj vs))) _).ownBlock=_∨_;rw [←HKX.out,HP9.out];exact hg7)
     dsimp only at hstep
     rw [←HKX.out,←HST.out]at hstep
     refine⟨((M14.out.ext X7).kept gr7 (fun e=>by have:=hrow _ e.symm;omega)).kept gr9 (by simp),m9,hstep.keep gr9 (fun x e=>⟨by have:=hr9 x e;omega,fun hv=>by have:=HVB1.out x hv;have:=hr9 x e;omega,fun kl v hm ho=>by have:=(hstep.below kl v x hm ho).1;have:=hr9 x e;omega⟩),?_,⟨?_,?_⟩,?_,?_⟩
     ·exact own_grown (own_grown (OC4.out.ext X7) gr7 (fun x h e=>by have:=hrow x e;omega) (fun x h e=>by have:=hrow x e;have:=HCB.out x h;omega)) gr9 (fun x h e=>by have:=hr9 x e;omega) (fun x h e=>by have:=hr9 x e;have:=HCB.out x h;omega)
     ·exact cell_grown gr9 (cell_grown gr7 (X7.at GC4.out.1) (fun x e=>by have:=hrow x e;omega)) (fun x e=>by have:=hr9 x e;omega)
     ·exact cell_grown gr9 (cell_grown gr7 (X7.at GC4.out.2) (fun x e=>by have:=hrow x e;omega)) (fun x e=>by have:=hr9 x e;omega)
     ·have h1:=HW4.out
      have h2:=HWB.out
      have h3:=X7.size
      have h4:=gr7.size
      have h5:=gr9.size
      omega
     ·exact ext_grown (ext_grown (X4.out.trans X7) gr7 (fun x e=>by have:=hrow x e;have:=HB.out;omega)) gr9 (fun x e=>by have:=hr9 x e;have:=HB.out;omega))
    go_wp2_with fail
    go_region_law (first
     |((with_reducible refine key_op 51 ?_);go_simp;refine(HKEY4.out _ (by first | with_reducible exact(Ext.refl w4).drew | with_reducible exact((Ext.refl w4).alloc _).drew)).mono ?_;rintro e w5 ⟨rfl,x5⟩;have X5:Hid (Ext w4 w5):=(by first | exact Lib.hid ((Ext.refl w4).drew.trans x5) | exact Lib.hid (((Ext.refl w4).alloc _).drew.trans x5));(try have q5:=fun(j:Nat) (u:Value) hj=>x5.at (cells_new w4 [.slice pv vs.length kv',.int .i64 f,.int .i64 t,.slice pl ln.length kl'] 125 j u hj));have f0:=X5.out.at d0;have f1:=X5.out.at d1;have f2:=X5.out.at d2;have f3:=X5.out.at d3;have f4:=cell_lt f0)
     |((with_reducible refine key_op 54 ?_);go_simp;refine(HKEY4.out _ (by first | with_reducible exact X5.out | with_reducible exact X5.out.alloc _)).mono ?_;rintro e w6 ⟨rfl,x6⟩;have X6:Hid (Ext w4 w6):=(by first | exact Lib.hid (X5.out.trans x6) | exact Lib.hid ((X5.out.alloc _).trans x6));(try have q6:=fun(j:Nat) (u:Value) hj=>x6.at (q5 j u hj));(try have q6:=fun(j:Nat) (u:Value) hj=>x6.at (cells_new w5 [.slice pv vs.length kv',.int .i64 f,.int .i64 t,.slice pl ln.length kl'] 125 j u hj));have l0:=X6.out.at d0;have l1:=X6.out.at d1;have l2:=X6.out.at d2;have l3:=X6.out.at d3;have l4:=cell_lt l0;have hlk:=lookup_run (M24.out.ext X6.out) (string_keyed Tryz.underlying9) Tryz.underlying138 (zero_slT w6) ⟨_,_,_,rfl⟩ HKS2.out HP9.out;have hlk2:=lookup_run (M24.out.ext (X6.out.alloc (.cells ([.slice pv vs.length kv',.int .i64 f,.int .i64 t,.slice pl ln.length kl']).toArray 125))) (string_keyed Tryz.underlying9) Tryz.underlying138 (zero_slT _) ⟨_,_,_,rfl⟩ HKS2.out HP9.out)
     |(refine step_append_one Rep.tup (fun x=>x<B) rfl _ _ 85 rfl B2 125 i2 _ 64 Tryz.underlying85 hi2 hz20 hz21 hz22 rfl (by decide) (.slice p9 pm.length c9) pm rfl (by first | with_reducible exact OW4.out.ext X6.out | with_reducible exact OW4.out.ext (X6.out.alloc _)) ⟨_,0,none⟩ 1 ⟨vs,f,t,ln⟩ [.slice pv vs.length kv',.int .i64 f,.int .i64 t,.slice pl ln.length kl'] rfl (by first | exact HH.out _ X6.out | exact HH.out _ (X6.out.alloc _)) (by first | exact q6 | exact cells_new w6 [.slice pv vs.length kv',.int .i64 f,.int .i64 t,.slice pl ln.length kl'] _) B1 B22 (by first | exact Nat.le_trans (by have h1:=HW4.out;have h2:=HWB.out;omega) X6.out.size | exact Nat.le_trans (by have h1:=HW4.out;have h2:=HWB.out;omega) (X6.out.alloc _).size) ?_;intro g8 cap8 w8 own8 gr8 hg8;obtain⟨W7,X7,gr7,hg7⟩ : ∃W7,Ext w4 W7∧W7.grownBy w8 (Value.slice p9 pm.length c9).ownBlock∧((Value.slice p9 pm.length c9).ownBlock=some g8∨g8=W7.heap.size):=(by first | exact⟨_,X6.out,gr8,hg8⟩ | exact⟨_,X6.out.alloc _,gr8,hg8⟩);obtain⟨w9,hup,m9,gr9⟩:=store_run ((M24.out.ext X7).kept gr7 (fun e=>by have h1:=(OW4.out.lt _ e.symm).1;have h2:=HS2.out;omega)) (string_keyed Tryz.underlying9) Tryz.underlying138 (by unfold maxLen;omega) HKS2.out (val:= .slice (some ⟨g8,0,none⟩) (pm.length+1) cap8) ⟨_,_,_,rfl⟩;have HE9:=Lib.hid (And.intro X7 (And.intro own8 (And.intro gr7 (And.intro hg7 (And.intro m9 gr9)))));clear X7 own8 gr7 hg7 m9 gr9 gr8 hg8))
    all_goals
     have R9:=TAIL.out _ _ _ _ _ HE9.out
     have HR9:=Lib.hid R9
     clear R9
     go_wp2_with fail
     go_roundg (N - (k+1))
     case measure=>omega
     case rel =>
      obtain⟨r1,r2,r3,r4,r5,r6,r7⟩:=HR9.out
      exact⟨k+1,_,_,_,by omega,rfl,by go_num,r1,r2,r3,HVB1.out,r4,r5,r6,r7⟩
   ·have hkN:k=N:=by omega
    have hd : ¬(k:Int)<(N:Int):=by omega
    subst hkN
    have GIL:=Lib.hid (show GInv proj K wr B B2 125 VB L m1 m2 from by
     have h:=GI.out
     rw [HN.out,List.take_length]at h
     exact h)
    clear GI hk
    go_wp2_with (at_range;refine wpList_range_v _ rfl _ 138 rfl 9 85 (string_keyed Tryz.underlying9) Tryz.underlying138 ShSl (B+1+1) (k+1) m2 rfl M2.out ?_)
    intro w2 left0 cnt0 rg2 hleft0 hcnt0 gr2 sz2
    obtain⟨rb,hrb⟩ : ∃r,r=wr.heap.size:=⟨_,rfl⟩
    rw [←hrb]at rg2 ⊢
    have RG2:=Lib.hid rg2
    have M12:=Lib.hid (M1.out.kept gr2 (by simp))
    have GI2:=Lib.hid (GIL.out.keep gr2 (fun x e=>by cases e))
    have GC2:=Lib.hid (And.intro (cell_grown gr2 GC.out.1 (fun x e=>by cases e)) (cell_grown gr2 GC.out.2 (fun x e=>by cases e)))
    have X2:=Lib.hid (ext_grown HX.out gr2 (fun x e=>by cases e))
    have HRB:=Lib.hid (show B+3≤rb∧B2≤rb∧rb<w2.heap.size from ⟨by have:=HS2.out;have:=HSZ.out;omega,by rw [hrb];exact HSZ.out,by rw [sz2,hrb];omega⟩)
    have HLF:=Lib.hid hleft0
    have HM2B:=Lib.hid (show ∀kl v x,m2 kl=some v→v.ownBlock=some x→B2≤x∧x<rb from fun kl v x hm hx=>by rw [hrb];exact GIL.out.below kl v x hm hx)
    have HVBR:=Lib.hid (show ∀x,VB x→B2≤x∧x<rb from fun x hx=>⟨HVB.out x hx,by rw [hrb];exact GIL.out.vlt x hx⟩)
    clear rg2 hrb HX gr2 sz2 M1 M2 GIL GC HSZ hleft0 OC HVB
    go_wp2_with fail
    go_loopg [15] (k+1) (fun gk vo wr=> ∃(left:Lit→Bool) (cnt:Nat) (done:List (List Val)) (u:Value),cnt≤gk∧u=vo∧Hid (RangeV wr Tryz.prog 9 ShSl (B+1+1) rb (k+1) m2 left cnt)∧Hid (MapV wr Tryz.prog 9 ShSl (B+1) k m1)∧Hid (GInv proj K wr B B2 125 VB L m1 m2)∧Hid (DoneG K m2 left done)∧Hid (done.length+cnt≤k+1)∧Hid (OwnOf Rep.tup wr (fun x=>rb<x) (rb+1) 125 u (rawG proj aggV (decide (K=0)) L done))∧Hid (wr.cell? ⟨B,0,none⟩=some (.slice pe es.length ce)∧wr.cell? ⟨B,1,none⟩=some (.slice pa na ca))∧Hid (rb<wr.heap.size)∧Hid (Ext w wr))
    case atStart=>exact⟨left0,cnt0,[],_,hcnt0,rfl,RG2.out,M12.out,GI2.out,DoneG.start HLF.out,by show 0+cnt0≤k+1;omega,OwnOf.nil _ _ _ _ _,GC2.out,HRB.out.2.2,X2.out⟩
    case round =>
     clear RG2 M12 GI2 X2 GC2
     obtain⟨left,cnt,done,u,hgk,rfl,RG,M1,GI,DO,HDL,OU,GC,HRW,HX⟩:=hrel
     have HUB:=Lib.hid (show ∀x,u.ownBlock=some x→rb+1≤x from fun x hx=>(OU.out.lt x hx).1)
     go_wp2_with (at_next;refine wpList_next_v _ rfl _ rfl 9 Tryz.underlying9 (string_keyed Tryz.underlying9) ShSl mkSl (fun v h=>sl_mk h) (B+1+1) rb (k+1) m2 left cnt rfl RG.out ?_ ?_)
     ·intro hc0 hl0
      have HALL:=Lib.hid (DO.out.all GI.out HPL.out hl0)
      clear hl0 hc0 RG M1 hgk
      go_wp2_with fail
      refine(normalize_any _ (rawG proj aggV (decide (K=0)) L done) _ OU.out.slice ?_ (HT.out.1.ext HX.out)).mono ?_
      · exact rawG_fit HCF.out (by have:=HN.out;omega) (by have:=HDL.out;omega) DO.out.1 HF.out HFIT.out (fun kv hkv=>by
         rcases(HALL.out kv).1 hkv with ⟨_,rfl⟩ | ⟨t,ht,rfl⟩
         ·exact⟨Nat.zero_le _,fun x hx=>by cases hx⟩
         ·obtain⟨u,hu,hv,_⟩:=HCF.out t ht
          refine⟨by rw [HPL.out];exact hK1,?_⟩
          rw [HPR.out,hv]
          exact proj_fit es keys (HF.out u hu).1.2)
      rintro e w4 ⟨v4,rfl,s4,x4⟩
      have hfin:normT (rawG proj aggV (decide (K=0)) L done)=aggT proj aggV (decide (K=0)) l:=by rw [HLL.out];exact rawG_norm HPL.out DO.out.1 (fun r=>by rw [←HLL.out];exact HALL.out r)
      rw [hfin]at s4
      have X4:=Lib.hid (HX.out.trans x4)
      have S4:=Lib.hid s4
      clear s4 x4 hfin
      go_wp2_with fail
      go_ret
      exact⟨v4,rfl,S4.out.ext (on_mono w4 fun x _ hx=>Nat.le_trans HX.out.size hx),X4.out⟩
     ·intro x c w1 cnt1 hkey hlk hmp hS hrg hlt hg1 hs1 hen
      obtain⟨kx,hkxl,hkl0,hkin,hown⟩:=GI.out.p1 _ _ hmp
      have hmk:(m2 (keyG kx)).isSome=true:=by rw [←hkl0,hmp];rfl
      obtain⟨cp,cn,cc⟩:=c
      obtain⟨pz,cz,hz,_⟩:=hown.shapeL
      unfold mkSl at hz hmp hown hen ⊢
      dsimp only at hz hmp hown hen ⊢
      obtain⟨ms,hms⟩ : ∃x,x=memOf proj kx L:=⟨_,rfl⟩
      rw [←hms]at hz hown
      injection hz with hz1 hz2 hz3
      subst hz2
      have hmsl:ms.length≤400:=by rw [hms];have:=memOf_len proj kx L;have:=HN.out;omega
      rw [hkl0]at hrg hlk hkey hmp
      have DO2:=Lib.hid (DO.out.step hkxl hmk hlk)
      have HDL2:=Lib.hid (show (done ++ [kx]).length+cnt1≤k+1 from by have:=HDL.out;rw [List.length_append,List.length_singleton];omega)
      have hrw : ∀y,(some rb:Option Nat)=some y→y=rb:=fun y e=>(Option.some.inj e).symm
      have RG1:=Lib.hid hrg
      have M11:=Lib.hid (M1.out.kept hg1 (by have:=HRB.out;simp;omega))
      have GI1:=Lib.hid (GI.out.keep hg1 (fun y e=>⟨by have:=hrw y e;have:=HRB.out;omega,fun hv=>by have:=hrw y e;have:=(HVBR.out y hv).2;omega,fun kl v hm ho=>by have:=hrw y e;have:=(HM2B.out kl v y hm ho).2;omega⟩))
      have OU1:=Lib.hid (own_grown OU.out hg1 (fun y hy e=>by have:=hrw y e;omega) (fun y hy e=>by have:=hrw y e;have:=HUB.out y hy;omega))
      have GC1:=Lib.hid (And.intro (cell_grown hg1 GC.out.1 (fun y e=>by have:=hrw y e;have:=HRB.out;omega)) (cell_grown hg1 GC.out.2 (fun y e=>by have:=hrw y e;have:=HRB.out;omega)))
      have X1:=Lib.hid (ext_grown HX.out hg1 (fun y e=>by have:=hrw y e;have:=HRB.out;have:=HB.out;omega))
      have HRW1:=Lib.hid (show rb<w1.heap.size from by rw [hs1];exact HRW.out)
      have HCN:=Lib.hid (show cnt1<cnt from hlt)
      have HMP:=Lib.hid hmp
      have HMK:=Lib.hid hmk
      have HMS:=Lib.hid hms
      have HKXL:=Lib.hid hkxl
      have HKY:=Lib.hid hkey
      have HKIN:=Lib.hid hkin
      clear hmp hS hkl0 hmk hlk hrg hg1 hs1 hz1 hz3 hown hms hkxl hkey hkin RG M1 GI DO HDL OU HRW GC HX hrw hlt
      have hown1:OwnOf Rep.tup w1 (fun x=>x<B) B2 125 (.slice cp ms.length cc) ms:=by
        have h:=GI1.out.own HKXL.out
        rw [HMP.out,←HMS.out]at h
        exact h
      have OM1:=Lib.hid hown1
      have HML:=Lib.hid hmsl
      clear hown1
      go_upto_if 71 with fail
      refine(bounds_any _ ms _ OM1.out.slice (by have:=HML.out;omega)).mono ?_
      rintro e w2 ⟨v2,rfl,own2,x2⟩
      have OB2:=Lib.hid own2
      have X12:=Lib.hid x2
      obtain⟨P,hP⟩ : ∃P,P=gPts (decide (K=0)) ms:=⟨_,rfl⟩
      have HP:=Lib.hid hP
      clear own2 x2 hP
      go_upto_if 71 with fail
      go_cut [18] (fun s18 wx=> ∃u,s18=u∧Hid (OwnOf Rep.int wx (fun _=>True) w1.heap.size 3 u P)∧Hid (Ext w1 wx))
      case first =>
        by_cases hK0:K=0
        ·have hKd:((K:Int)==0)=true:=by simp [hK0]
         have HPK:=Lib.hid (show P=pts (dayT::ms)from by rw [HP.out,decide_eq_true hK0];rfl)
         obtain⟨y0,y1⟩:=days_cells (HT.out.2.ext (X1.out.trans X12.out))
         rw [hKd]
         clear hK0 hKd
         have hm1:1+ms.length≤maxLen:=by unfold maxLen;omega
         have hm2:(1+ms.length)*64≤140737488355328:=by omega
         have SMA:=Lib.hid (show ∀W,Ext w1 W→SliceOf Rep.tup (on W (avoid (fun x=>x<w1.heap.size) (.slice (some ⟨w2.heap.size,0,none⟩) 1 1))) (.slice cp ms.length cc) ms from fun W hW=>(OM1.out.slice.ext (full_on w1 _ fun x h=>⟨fun e=>by have h5:x=w2.heap.size:=Option.some.inj e;have:=X12.out.size;omega,h⟩)).ext (hW.sub _))
         go_wp2_with (at_builtin;go_loud (refine wpList_append_all Rep.tup (fun x=>x<w1.heap.size) rfl _ _ 85 rfl w1.heap.size 125 i2 _ 64 Tryz.underlying85 hi2 hz20 hz21 hz22 rfl (by decide) (.slice (some ⟨w2.heap.size,0,none⟩) 1 1) [dayT] rfl (own_day w2 _ X12.out.size _) _ ms rfl (SMA.out _ (X12.out.alloc _)) hm1 hm2 (by exact(X12.out.alloc _).size) ?_))
         intro v3 w3 own3 gr3 _
         have X13:=Lib.hid ((X12.out.alloc _).grownNew gr3 (fun y e=>by have h5:w2.heap.size=y:=Option.some.inj e;have:=X12.out.size;omega))
         have S3:=Lib.hid own3.slice
         clear own3 gr3 y0 y1 OB2 X12 SMA
         go_wp2_with fail
         refine(bounds_any _ (dayT::ms) _ S3.out (by have:=HML.out;rw [List.length_cons];omega)).mono ?_
         rintro e w4 ⟨v4,rfl,own4,x4⟩
         have O4:=Lib.hid (own4.weak (S:=fun _=>True) (T:=fun _=>True) (fun _ _ h=>h) X13.out.size)
         have X14:=Lib.hid (X13.out.trans x4)
         clear own4 x4
         go_wp2_with fail
         go_meet
         exact⟨_,rfl,by rw [HPK.out];exact O4.out,X14.out⟩
        ·have hKd:((K:Int)==0)=false:=by simp;omega
         have HPK:=Lib.hid (show P=pts ms from by rw [HP.out,decide_eq_false hK0];rfl)
         rw [hKd]
         clear hK0 hKd
         go_wp2_with fail
         go_meet
         exact⟨_,rfl,by rw [HPK.out];exact OB2.out,X12.out⟩
      case rest =>
        obtain⟨u18,rfl,OP,X12⟩:=hcut
        obtain⟨pp,cpp,rfl,hpp⟩:=OP.out.shapeL
        obtain⟨n,hn⟩ : ∃n,n=P.length:=⟨_,rfl⟩
        have hn1:n≤1000:=by rw [hn,HP.out];have:=gPts_len (decide (K=0)) ms;have:=HML.out;omega
        have SP0:=Lib.hid (OP.out.fresh (fun _ _ _ _ h=>h))
        obtain⟨raw,hraw⟩ : ∃x,x=rawG proj aggV (decide (K=0)) L done:=⟨_,rfl⟩
        have hrl:raw.length≤10000:=by
         have h1:=rawG_len2 proj aggV (decide (K=0)) L done (List.nodup_append.1 DO2.out.1).1
         have h2:=HDL2.out
         rw [List.length_append,List.length_singleton]at h2
         have h3:=HN.out
         rw [hraw];omega
        rw [←hraw]at OU1
        rw [←hn]at hpp SP0
        rw [←hn]
        have HNP:=Lib.hid hn
        have HPP:=Lib.hid hpp
        have HRAW:=Lib.hid hraw
        have HRL:=Lib.hid hrl
        have RG2:=Lib.hid (RG1.out.ext X12.out)
        have M12:=Lib.hid (M11.out.ext X12.out)
        have GI2:=Lib.hid (GI1.out.ext X12.out)
        have OU2:=Lib.hid (OU1.out.ext X12.out)
        have GC2:=Lib.hid (And.intro (X12.out.at GC1.out.1) (X12.out.at GC1.out.2))
        have X2:=Lib.hid (X1.out.trans X12.out)
        have HRW2:=Lib.hid (Nat.lt_of_lt_of_le HRW1.out X12.out.size)
        have HU1:=Lib.hid (show ∀x,u.ownBlock=some x→x<w1.heap.size from fun x hx=>(OU1.out.lt x hx).2)
        clear hn hpp hraw hrl OP RG1 M11 GI1 OU1 GC1 X1 HRW1 X12 OM1 OB2
        go_wp2_with fail
        go_loopg [15,19] (n - 1) (fun gk vo vi wr=> ∃(j:Nat) (u:Value),j≤n - 1∧gk=n - 1 - j∧vi = .int .i64 ((j:Int)+1)∧u=vo∧Hid (RangeV wr Tryz.prog 9 ShSl (B+1+1) rb (k+1) m2 (fun z=>left z && !z.sameKey (keyG kx)) cnt1)∧Hid (MapV wr Tryz.prog 9 ShSl (B+1) k m1)∧Hid (GInv proj K wr B B2 125 VB L m1 m2)∧Hid (OwnOf Rep.tup wr (fun x=>rb<x) (rb+1) 125 u (raw++gUpto aggV (decide (K=0)) P kx ms j))∧Hid (SliceOf Rep.int (on wr (fun x=>u.ownBlock≠some x)) (.slice pp n cpp) P)∧Hid (wr.cell? ⟨B,0,none⟩=some (.slice pe es.length ce)∧wr.cell? ⟨B,1,none⟩=some (.slice pa na ca))∧Hid (rb<wr.heap.size)∧Hid (Ext w wr))
        case atStart =>
         refine⟨0,u,by omega,rfl,rfl,rfl,RG2.out,M12.out,GI2.out,?_,SP0.out.ext (on_mono _ fun x _ hx e=>by have:=HU1.out x e;have h5:w1.heap.size≤x:=hx;omega),GC2.out,HRW2.out,X2.out⟩
         show OwnOf Rep.tup _ _ _ _ _ (raw ++ [])
         rw [List.append_nil]
         exact OU2.out
        case round =>
         clear RG2 M12 GI2 OU2 SP0 GC2 HRW2 X2 HU1
         obtain⟨j,u,hj,rfl,rfl,rfl,RG,M1,GI,OU,SP,GC,HRW,HX⟩:=hrel
         by_cases hlt3:j+1<n
         ·have hjl:j<P.length:=by have:=HNP.out;omega
          have hjl2:j+1<P.length:=by have:=HNP.out;omega
          have hdj:decide ((j:Int)+1<(n:Int))=true:=by simp;omega
          obtain⟨gp,rfl⟩:=HPP.out (by omega)
          have hsp:=SP.out
          rw [HNP.out]at hsp
          obtain⟨b0,q0⟩:=int_at hsp j hjl
          obtain⟨b1,q1⟩:=int_at hsp (j+1) hjl2
          replace b0:=(on_some.1 b0).2
          replace b1:=(on_some.1 b1).2
          simp only [Nat.zero_add]at b0 b1
          rw [←getElem!_pos P j hjl]at b0 q0
          rw [←getElem!_pos P (j+1) hjl2]at b1 q1
          have hst:raw++gUpto aggV (decide (K=0)) P kx ms (j+1)=(raw++gUpto aggV (decide (K=0)) P kx ms j)++if gHas (decide (K=0)) ms P[j]! = true then [tupOf (gRow aggV kx ms P[j]!) ⟨P[j]!,P[j+1]!⟩]else []:=(List.append_assoc _ _ _).symm
          obtain⟨ys,hys⟩ : ∃x,x=raw++gUpto aggV (decide (K=0)) P kx ms j:=⟨_,rfl⟩
          have hyl:ys.length≤11000:=by rw [hys,List.length_append];have:=gUpto_len aggV (decide (K=0)) P kx ms j;have:=HRL.out;omega
          rw [←hys]at OU hst
          generalize P[j]! = f at b0 q0 hst
          generalize P[j+1]! = t at b1 q1 hst
          have HST:=Lib.hid hst
          have HQ:=Lib.hid (show okI f∧okI t from ⟨q0,q1⟩)
          have e3:=cell_lt b0
          have B1:ys.length+1≤maxLen:=by unfold maxLen;omega
          have B22:(ys.length+1)*64≤140737488355328:=by omega
          have hm3:IntKind.i64.wrap ((j:Int)+1 - 1)=(j:Int):=by rw [IntKind.wrap_i64];omega
          have hm4:IntKind.i64.wrap ((j:Int)+1+1)=(j:Int)+1+1:=by rw [IntKind.wrap_i64];omega
          have HUL:=Lib.hid (show ∀x,u.ownBlock=some x→rb+1≤x∧x<wr.heap.size from fun x hx=>OU.out.lt x hx)
          have hjn1:j<n:=by omega
          have hjn2:(j:Int)<(n:Int):=by omega
          have hjn3:(j:Int)+1<(n:Int):=by omega
          clear hst hys hyl q0 q1 hsp
          go_wp2_with fail
          go_region
          go_wp2_with (at_lookup;go_loud (refine wpList_lookup_v _ rfl _ _ 137 rfl 9 56 (string_keyed Tryz.underlying9) Tryz.underlying137 (.slice none 0 0) (zero_slV _) ShSl ⟨_,_,_,rfl⟩ (B+1) k m1 rfl (M1.out.ext ((Ext.refl wr).alloc _).drew) _ (keyG kx) rfl HKY.out ?_))
          intro vp HVP hsp
          have hkv:=GI.out.vals HPL.out HKXL.out HMK.out
          rw [←HVP.out]at hkv
          have hom:=GI.out.own HKXL.out
          rw [HMP.out,←HMS.out]at hom
          obtain⟨p9,c9,rfl,_⟩:=hkv.form
          have SK:=Lib.hid hkv
          have SMS:=Lib.hid (show SliceOf Rep.tup wr.cell? (.slice cp ms.length cc) ms from hom.slice)
          obtain⟨W0,hW0⟩ : ∃W,W=(wr.alloc (.cells #[.int .i64 f,.int .i64 t] 123)).drew:=⟨_,rfl⟩
          have d0:W0.cell? ⟨wr.heap.size,0,none⟩=some (.int .i64 f):=by rw [hW0];go_simp
          have d1:W0.cell? ⟨wr.heap.size,1,none⟩=some (.int .i64 t):=by rw [hW0];go_simp
          have X0:=Lib.hid (show Ext wr W0 from by rw [hW0];exact((Ext.refl wr).alloc _).drew)
          rw [←hW0]
          obtain⟨Q,hQ⟩ : ∃q,q=wr.heap.size:=⟨_,rfl⟩
          have HQQ:=Lib.hid hQ
          rw [←hQ]at d0 d1
          rw [←hQ]
          have e4:=cell_lt d0
          have g0:=X0.out.at GC.out.1
          clear hkv hom hsp HVP b0 b1 hW0 hQ e3
          go_wp2_with fail
          refine(HROW.out B _ kx _ ms f W0 (HX.out.trans X0.out) (X0.out.at GC.out.1) (X0.out.at GC.out.2) (SK.out.ext X0.out.full) (by rw [HKXL.out];exact HK.out) (SMS.out.ext X0.out.full) ?hml ?hmm).mono ?_
          case hml=>rw [HMS.out];exact Nat.le_trans (memOf_len _ _ _) (by rw [HLL.out];exact clip_len l)
          case hmm=>intro m hm;rw [HMS.out]at hm;exact HCF.out m (List.mem_filter.1 hm).1
          rintro e w4 ⟨ra,rb2,rfl,sa,sb,x4⟩
          obtain⟨r,hr⟩ : ∃r,r=gRow aggV kx ms f:=⟨_,rfl⟩
          have HFR:=Lib.hid (show r.vals.length≤1048576∧r.lin.length≤1048576 from by rw [hr,HMS.out];exact gRow_fit HCF.out (by have:=HN.out;omega) HF.out HFIT.out (by rw [HKXL.out];exact hK1) f)
          obtain⟨bh,hbh⟩ : ∃b,b=decide (0<(memV ms f).length):=⟨_,rfl⟩
          obtain⟨bk,hbk,hdk⟩ : ∃bk,((K:Int)==0)=bk∧decide (K=0)=bk:=⟨_,rfl,by rw [Bool.eq_iff_iff];simp⟩
          have HGH:=Lib.hid (show gHas (decide (K=0)) ms f=(bk||bh)from by rw [gHas_eq,hbh,hdk])
          rw [←hr]at sa sb
          rw [←hbh]
          have HR:=Lib.hid hr
          obtain⟨pa4,ka4,rfl,_⟩:=sa.form
          obtain⟨pb4,kb4,rfl,_⟩:=sb.form
          have SA:=Lib.hid (sa.ext (on_sub _ _))
          have SB:=Lib.hid (sb.ext (on_sub _ _))
          replace d0:=x4.at d0
          replace d1:=x4.at d1
          have X4:=Lib.hid (X0.out.trans x4)
          have HRBW:=Lib.hid (show rb<wr.heap.size from HRW.out)
          have e5:=cell_lt d0
          clear hr hbh hdk sa sb x4 g0 e4 X0 SK SMS
          cases bk <;> cases bh
          case false.false =>
           go_wp2_with fail
           have HG:=Lib.hid (show gHas (decide (K=0)) ms f=false from HGH.out)
           have OU5:=Lib.hid (show OwnOf Rep.tup _ (fun x=>rb<x) (rb+1) 125 u (raw++gUpto aggV (decide (K=0)) P kx ms (j+1))from by rw [HST.out,HG.out,if_neg (by decide),List.append_nil];exact OU.out.ext (X4.out.alloc (.cells #[.slice pa4 r.vals.length ka4,.slice pb4 r.lin.length kb4] 58)))
           go_roundg (n - 1 - (j+1))
           case measure=>omega
           case rel=>exact⟨j+1,u,by omega,rfl,by go_num,rfl,RG.out.ext (X4.out.alloc _),M1.out.ext (X4.out.alloc _),GI.out.ext (X4.out.alloc _),OU5.out,SP.out.ext ((X4.out.alloc _).sub _),⟨(X4.out.alloc _).at GC.out.1,(X4.out.alloc _).at GC.out.2⟩,Nat.lt_of_lt_of_le HRBW.out (X4.out.alloc _).size,HX.out.trans (X4.out.alloc _)⟩
          all_goals
           go_wp2_with fail
           have HG:=Lib.hid (show gHas (decide (K=0)) ms f=true from HGH.out)
           clear hbk HGH
           refine(during_any _ _ r f t _ (SA.out.ext ((Ext.refl w4).alloc _).full) (SB.out.ext ((Ext.refl w4).alloc _).full) HFR.out.1 HFR.out.2).mono ?_
           rintro e w6 ⟨da,db,rfl,sc,sd,x6⟩
           obtain⟨pc6,kc6,rfl,_⟩:=sc.form
           obtain⟨pd6,kd6,rfl,_⟩:=sd.form
           have SC:=Lib.hid (sc.ext (on_mono w6 (T:=fun x=>w4.heap.size<x) fun x _ hx=>by simp [since]at hx;omega))
           have SD:=Lib.hid (sd.ext (on_mono w6 (T:=fun x=>w4.heap.size<x) fun x _ hx=>by simp [since]at hx;omega))
           have X6:=Lib.hid ((X4.out.alloc _).trans x6)
           have HS4:=Lib.hid X4.out.size
           clear sc sd x6 SA SB d0 d1 e5 X4
           go_wp2_with (at_builtin;go_loud (refine wpList_append_one Rep.tup (fun x=>rb<x) rfl _ _ 85 rfl (rb+1) 125 i2 _ 64 Tryz.underlying85 hi2 hz20 hz21 hz22 rfl (by decide) u ys rfl (OU.out.ext (X6.out.alloc _)) ⟨w6.heap.size,0,none⟩ 1 (tupOf r ⟨f,t⟩) [.slice pc6 r.vals.length kc6,.int .i64 f,.int .i64 t,.slice pd6 r.lin.length kd6] rfl (by
            have hsub : ∀(o:Obj),Sub (on w6 (fun x=>w4.heap.size<x)) (on (w6.alloc o) (avoid (fun x=>rb<x) u)):=fun o=>(on_mono w6 fun x _ hx=>⟨fun e=>by have:=(HUL.out x e.symm).2;have:=HS4.out;omega,by have:=HRBW.out;have:=HS4.out;omega⟩).trans (((Ext.refl w6).alloc o).sub _)
            exact⟨_,_,rfl,SC.out.ext (hsub _),SD.out.ext (hsub _),HQ.out.1,HQ.out.2⟩) (by exact cells_new w6 [.slice pc6 r.vals.length kc6,.int .i64 f,.int .i64 t,.slice pd6 r.lin.length kd6] _) B1 B22 (Nat.le_trans HRBW.out (X6.out.alloc _).size) ?_))
           intro g5 cap5 w5 own5 gr5 hg5
           have X6a:=X6.out.alloc (.cells #[.slice pc6 r.vals.length kc6,.int .i64 f,.int .i64 t,.slice pd6 r.lin.length kd6] 125)
           have hub : ∀x,u.ownBlock=some x→rb<x:=fun x hx=>by have:=(HUL.out x hx).1;omega
           have hg5':u.ownBlock=some g5∨g5=(w6.alloc (.cells #[.slice pc6 r.vals.length kc6,.int .i64 f,.int .i64 t,.slice pd6 r.lin.length kd6] 125)).heap.size:=by rcases hg5 with h | h;exact .inl h;exact .inr (by rw [h];simp)
           have RG5:=Lib.hid ((RG.out.ext X6a).kept gr5 (fun e=>by have:=hub _ e.symm;have:=HRB.out;omega) (fun e=>by have:=hub _ e.symm;omega))
           have M15:=Lib.hid ((M1.out.ext X6a).kept gr5 (fun e=>by have:=hub _ e.symm;have:=HRB.out;omega))
           have GI5:=Lib.hid ((GI.out.ext X6a).keep gr5 (fun y e=>⟨by have:=hub y e;have:=HRB.out;omega,fun hv=>by have:=hub y e;have:=(HVBR.out y hv).2;omega,fun kl v hm ho=>by have:=hub y e;have:=(HM2B.out kl v y hm ho).2;omega⟩))
           have SP5:=Lib.hid ((SP.out.ext (X6a.sub _)).ext (off_grow (a:=ys.length+1) (b:=cap5) gr5 hg5'))
           have GC5:=Lib.hid (And.intro (cell_grown gr5 (X6a.at GC.out.1) (fun y e=>by have:=hub y e;have:=HRB.out;omega)) (cell_grown gr5 (X6a.at GC.out.2) (fun y e=>by have:=hub y e;have:=HRB.out;omega)))
           have HX5:=Lib.hid (ext_grown (HX.out.trans X6a) gr5 (fun y e=>by have:=hub y e;have:=HRB.out;have:=HB.out;omega))
           have HR5:=Lib.hid (Nat.lt_of_lt_of_le HRBW.out (Nat.le_trans X6a.size gr5.size))
           have OU5:=Lib.hid (show OwnOf Rep.tup w5 (fun x=>rb<x) (rb+1) 125 (.slice (some ⟨g5,0,none⟩) (ys.length+1) cap5) (raw++gUpto aggV (decide (K=0)) P kx ms (j+1))from by rw [HST.out,if_pos HG.out,←HR.out];exact own5)
           clear own5 gr5 hg5 hg5' X6a hub RG M1 GI OU SP GC HX SC SD X6 HUL
           go_wp2_with fail
           go_roundg (n - 1 - (j+1))
           case measure=>omega
           case rel=>exact⟨j+1,_,by omega,rfl,by go_num,rfl,RG5.out,M15.out,GI5.out,OU5.out,SP5.out,GC5.out,HR5.out,HX5.out⟩
         ·have hjn:j=P.length - 1:=by have:=HNP.out;omega
          have hdj : ¬((j:Int)+1<(n:Int)):=by omega
          have OUF:=Lib.hid (show OwnOf Rep.tup wr (fun x=>rb<x) (rb+1) 125 u (rawG proj aggV (decide (K=0)) L (done ++ [kx]))from by
           have h:=OU.out
           rw [rawG_snoc,←HMS.out,←HRAW.out]
           unfold gOut
           rw [←HP.out,←hjn]
           exact h)
          clear hjn OU
          go_wp2_with fail
          go_roundg (cnt1)
          case measure=>have:=HCN.out;omega
          case rel=>exact⟨_,cnt1,done ++ [kx],u,Nat.le_refl _,rfl,RG.out,M1.out,GI.out,DO2.out,HDL2.out,OUF.out,GC.out,HRW.out,HX.out⟩
end Go.Proofs.YtombmdaohcjokaaGreatDoor
namespace Go.Proofs
open Go.Shelf
def Tryz.insEv_ren:Go.Shelf.Ren:=⟨fun | 20=>282 | n=>n,fun | 24=>268 | 22=>265 | 3=>3 | 25=>271 | 4=>4 | 0=>0 | n=>n,fun | n=>n⟩
def Tryz.sortPairs_ren:Go.Shelf.Ren:=⟨fun | 6=>197 | 15=>118 | 14=>252 | 28=>172 | 29=>173 | 20=>285 | 21=>286 | 22=>287 | 23=>288 | 24=>289 | 25=>290 | 26=>291 | 27=>292 | 46=>313 | 47=>216 | 48=>217 | 49=>314 | 50=>315 | 57=>323 | n=>n,fun | 22=>214 | 24=>217 | 25=>283 | 3=>3 | 39=>185 | 0=>0 | 53=>247 | 55=>249 | 4=>4 | 46=>240 | 45=>239 | 50=>229 | 5=>5 | 9=>9 | 66=>301 | 70=>305 | 76=>349 | 77=>224 | n=>n,fun | n=>n⟩
def Tryz.sortPers_ren:Go.Shelf.Ren:=⟨fun | 6=>199 | 15=>118 | 14=>253 | 28=>172 | 29=>173 | 20=>293 | 21=>294 | 22=>295 | 23=>296 | 24=>297 | 25=>298 | 26=>299 | 27=>300 | 46=>316 | 47=>216 | 48=>217 | 49=>317 | 50=>318 | 57=>324 | n=>n,fun | 22=>149 | 24=>123 | 25=>285 | 3=>3 | 39=>185 | 0=>0 | 53=>247 | 55=>249 | 4=>4 | 46=>240 | 45=>239 | 50=>229 | 5=>5 | 9=>9 | 66=>301 | 70=>305 | 76=>349 | 77=>224 | n=>n,fun | n=>n⟩
def Tryz.growEv_ren:Go.Shelf.Ren:=⟨fun | 4=>247 | n=>n,fun | 22=>265 | 25=>268 | 3=>3 | 4=>4 | 9=>9 | 20=>20 | 0=>0 | n=>n,fun | n=>n⟩
end Go.Proofs
namespace Go.Proofs.YtombmdaohcjokaaGreatDoor
open Go.RowKit Go.Shelf Go.Sort
def sideI (b:Bool):Int:=if b then 1 else 0
def evEnc (x:Ev):List Value:= [.int .i64 x.from_,.int .i64 (sideI x.side),.int .i64 x.idx]
def okS (x:Ev):Prop:=x.idx≤1048576∧ -9223372036854775808≤x.from_∧x.from_≤9223372036854775807
def Rep.ev:Rep Ev where
 size:=3
 holds _ cs x:=cs=evEnc x∧okS x
 len:=by rintro w cs x ⟨rfl,_⟩;rfl
 ext:=by rintro w w' cs x h _;exact h
 one:=by rintro w cs x ⟨rfl,_⟩;simp [evEnc,Value.oneCell']
theorem ev_len (x:Ev):(evEnc x).length=3:=rfl
def cmpEv (x y:Ev):Int:=cmpI x.from_ y.from_
theorem drew_set (w:World) (p:Addr) (v:Value):w.drew.setCell p v=(w.setCell p v).drew:=rfl
end Go.Proofs.YtombmdaohcjokaaGreatDoor
namespace Go.Proofs.YtombmdaohcjokaaGreatDoor
open Go.RowKit Go.Shelf Go.Sort
end Go.Proofs.YtombmdaohcjokaaGreatDoor
namespace Go.Proofs.YtombmdaohcjokaaGreatDoor
open Go.RowKit Go.Shelf Go.Sort
instance:Inhabited Pair:=⟨⟨0,0,0,0⟩⟩
def pairEnc (x:Pair):List Value:= [.int .i64 x.a,.int .i64 x.b,.int .i64 x.from_,.int .i64 x.to_]
def okP (x:Pair):Prop:=(x.a≤1048576∧x.b≤1048576)∧(-9223372036854775808≤x.from_∧x.from_≤9223372036854775807)∧(-9223372036854775808≤x.to_∧x.to_≤9223372036854775807)
def Rep.pair:Rep Pair where
 size:=4
 holds _ cs x:=cs=pairEnc x∧okP x
 len:=by rintro w cs x ⟨rfl,_⟩;rfl
 ext:=by rintro w w' cs x h _;exact h
 one:=by rintro w cs x ⟨rfl,_⟩;simp [pairEnc,Value.oneCell']
end Go.Proofs.YtombmdaohcjokaaGreatDoor
namespace Go.Proofs.YtombmdaohcjokaaGreatDoor
open Go.RowKit Go.Shelf Go.Sort
end Go.Proofs.YtombmdaohcjokaaGreatDoor
namespace Go.Proofs.YtombmdaohcjokaaGreatDoor
open Go.RowKit Go.Shelf Go.Sort
end Go.Proofs.YtombmdaohcjokaaGreatDoor
namespace Go.Proofs.YtombmdaohcjokaaGreatDoor
open Go.RowKit Go.Shelf Go.Sort
structure QAt (w:World) (qb s B:Nat) (v:Value) (xs:List Ev):Prop where
 cell:w.cell? ⟨qb,s,none⟩=some v
 free:w.frozen? ⟨qb,s,none⟩=false
 own:OwnOf Rep.act w (fun _=>True) B 278 v xs
 ne:v.ownBlock≠some qb
 base:B≤w.heap.size
def Oth (w w':World) (qb s:Nat):Prop:= ∀j,j≠s→w'.cell? ⟨qb,j,none⟩=w.cell? ⟨qb,j,none⟩∧w'.frozen? ⟨qb,j,none⟩=w.frozen? ⟨qb,j,none⟩
end Go.Proofs.YtombmdaohcjokaaGreatDoor
namespace Go.Proofs.YtombmdaohcjokaaGreatDoor
open Go.RowKit Go.Shelf Go.Sort
def HeapL (xs:List Ev):Prop:=HeapTo ltAct xs.length xs.toArray
end Go.Proofs.YtombmdaohcjokaaGreatDoor
namespace Go.Proofs.YtombmdaohcjokaaGreatDoor
open Go.RowKit Go.Shelf Go.Sort
end Go.Proofs.YtombmdaohcjokaaGreatDoor
namespace Go.Proofs.YtombmdaohcjokaaGreatDoor
open Go.RowKit Go.Shelf Go.Sort
end Go.Proofs.YtombmdaohcjokaaGreatDoor
namespace Go.Proofs.YtombmdaohcjokaaGreatDoor
open Go.RowKit Go.Shelf Go.Sort
def Bk (s lo hi:Nat) (d:Array Ev):Prop:= ∀i j,lo≤i→i<j→j<hi→i / s=j / s→ltOf cmpEv d[j]! d[i]! = false
end Go.Proofs.YtombmdaohcjokaaGreatDoor
namespace Go.Proofs.YtombmdaohcjokaaGreatDoor
open Go.RowKit Go.Shelf Go.Sort
end Go.Proofs.YtombmdaohcjokaaGreatDoor
namespace Go.Proofs.YtombmdaohcjokaaGreatDoor
open Go.RowKit Go.Shelf Go.Sort
end Go.Proofs.YtombmdaohcjokaaGreatDoor
namespace Go.Proofs.YtombmdaohcjokaaGreatDoor
open Go.RowKit Go.Shelf
end Go.Proofs.YtombmdaohcjokaaGreatDoor
namespace Go.Proofs.YtombmdaohcjokaaGreatDoor
open Go.RowKit Go.Shelf Go.Sort
def sideN (c:Bool):Nat:=if c then 1 else 0
def upd {α:Type} (f:Bool→α) (c:Bool) (x:α):Bool→α:=fun d=>if d=c then x else f d
structure Sweep (w wr:World) (sb qb B:Nat) (va vb v3:Value) (es:List Ev) (q:Bool→List Ev) (u:Bool→Value) (vo:Value) (out:List Pair):Prop where
 ext:Ext w wr
 ev:OwnOf Rep.ev wr (fun _=>True) w.heap.size 268 v3 es
 evB : ∀k,v3.ownBlock=some k→k<B∧k≠qb
 s0:wr.cell? ⟨sb,0,none⟩=some va
 s1:wr.cell? ⟨sb,1,none⟩=some vb
 sbB:sb<B∧sb≠qb
 qbB:qb<B∧w.heap.size≤qb
 qs : ∀c,QAt wr qb (sideN c) B (u c) (q c)
 hp : ∀c,HeapL (q c)
 dj : ∀c k,(u c).ownBlock=some k→(u (!c)).ownBlock≠some k
 out:OwnOf Rep.pair wr (fun _=>True) B 217 vo out
 dq : ∀c k,(u c).ownBlock=some k→vo.ownBlock≠some k
structure Kept (w:World) (b:Nat) (x y z:Int):Prop where
 c0:w.cell? ⟨b,0,none⟩=some (.int .i64 x)
 c1:w.cell? ⟨b,1,none⟩=some (.int .i64 y)
 c2:w.cell? ⟨b,2,none⟩=some (.int .i64 z)
def Known (a b:List Tup) (e:Ev):Prop:=okEv e=true∧okS e∧okE e∧ ∃h:e.idx<(if e.side then b else a).length,(if e.side then b else a)[e.idx].from_=e.from_∧(if e.side then b else a)[e.idx].to_=e.to_
end Go.Proofs.YtombmdaohcjokaaGreatDoor
namespace Go.Proofs.YtombmdaohcjokaaGreatDoor
open Go.RowKit Go.Deep Go.ChangeShapes Go.WideShapes Go.ChangeAt
def Opens {α:Type} (P:Program) (t:TypeId) (R:Rep α):Prop :=
 ∀(H:Type) (enc:TypeId×Value→H) (w:World) (base:Nat) (spare:Nat→Bool) (held:Bool) (fuel:Nat) (cs:List Value) (x:DataW H×List MemPlace),
  DataW.trod enc P w base spare held fuel t cs=some x→ ∃y,R.holds w.cell? cs y
theorem repAll_of {α:Type} (R:Rep α) (h:View) (p:Nat→List Value→Prop) (n:Nat) (hp : ∀i,i<n→ ∃cs y,R.holds h cs y∧p i cs) :
  ∃css ys,css.length=n∧RepAll R h css ys∧ ∀i c,css[i]?=some c→p i c:=by
 induction n with
 |zero=>exact⟨[],[],rfl,trivial,fun i c hc=>by simp at hc⟩
 |succ n ih =>
  obtain⟨css,ys,h1,h2,h3⟩:=ih fun i hi=>hp i (by omega)
  obtain⟨c,y,h4,h5⟩:=hp n (by omega)
  refine⟨css ++ [c],ys ++ [y],by simp [h1],h2.append (RepAll.one h4),fun i d hd=> ?_⟩
  by_cases hi:i<css.length
  ·rw [List.getElem?_append_left hi]at hd
   exact h3 i d hd
  ·rw [List.getElem?_append_right (by omega)]at hd
   have:i=n:=by
    have:=(List.getElem?_eq_some_iff.1 hd).1
    simp at this
    omega
   subst this
   rw [h1,Nat.sub_self]at hd
   simp at hd
   subst hd
   exact h5
theorem flat_at {css:List (List Value)} {k:Nat} (hk : ∀c∈css,c.length=k) (j:Nat) (u:Value) (h:css.flatten[j]?=some u) : ∃i r c,css[i]?=some c∧c[r]?=some u∧j=i*k+r:=by
 induction css generalizing j with
 |nil=>simp at h
 |cons c css ih =>
  by_cases hj:j<c.length
  ·rw [List.flatten_cons,List.getElem?_append_left hj]at h
   exact⟨0,j,c,rfl,h,by simp⟩
  ·rw [List.flatten_cons,List.getElem?_append_right (by omega)]at h
   obtain⟨i,r,d,h1,h2,h3⟩:=ih (fun d hd=>hk d (by simp [hd])) _ h
   have:=hk c (by simp)
   exact⟨i+1,r,d,by simpa using h1,h2,by rw [Nat.succ_mul];omega⟩
theorem repAll_len {α:Type} {R:Rep α} {h:View} {css:List (List Value)} {ys:List α} (k:RepAll R h css ys) : ∀c∈css,c.length=R.size:=by
 induction css generalizing ys with
 |nil=>simp
 |cons c css ih =>
  cases ys with
  |nil=>exact k.elim
  |cons y ys =>
   intro d hd
   rcases List.mem_cons.1 hd with rfl | hd
   ·exact R.len k.1
   ·exact ih k.2 d hd
theorem opens_slice {α:Type} {P:Program} {t e:TypeId} {R:Rep α} (ht:P.underlying t=some (.slice e)) (hc:P.cellsOf e=R.size) (hR:Opens P e R):Opens P t R.slice:=by
 intro H enc w base spare held fuel cs x h
 rcases open_slice ht h with ⟨rfl,_⟩ | ⟨a,len,cap,m,n,D,Pl,rfl,hb,hl,hm,hmm,_,hx⟩
 ·exact⟨[],_,rfl,SliceOf.nil R _⟩
 ·have hlm:len≤m:=by rw [hmm];split <;> omega
  obtain⟨css,ys,h1,h2,h3⟩:=repAll_of R w.cell? (fun i cs'=>w.cells? base (a.add (i*P.cellsOf e)) (P.cellsOf e)=some cs') len fun i hi=>by
   obtain⟨cs',g1,g2⟩:=hx i (by omega)
   obtain⟨y,hy⟩:=hR H enc w base spare held n cs' _ g2
   exact⟨cs',y,hy,g1⟩
  have hlen:ys.length=len:=by rw [←h2.length,h1]
  refine⟨ys,_,rfl,css,h2,?_⟩
  rw [hlen]
  refine .inr ⟨a,cap,rfl,hl,hm,?_⟩
  have hcell : ∀j u,css.flatten[j]?=some u→w.cell? (a.add j)=some u:=by
   intro j u hj
   obtain⟨i,r,c,g1,g2,g3⟩:=flat_at (repAll_len h2) j u hj
   obtain⟨_,g5,g6⟩:=World.cells?_some (h3 i c g1)
   have hr:r<P.cellsOf e:=by rw [←g5];exact(List.getElem?_eq_some_iff.1 g2).1
   have:=g6 r hr
   rw [g2,Addr.add_add,hc,←g3]at this
   exact this
  by_cases hne:css.flatten = []
  ·exact .inl hne
  ·right
   obtain⟨u,us,hu⟩:=List.exists_cons_of_ne_nil hne
   have h0:=hcell 0 u (by rw [hu];rfl)
   obtain⟨b,o,sp⟩:=a
   have hsp:sp=none:=by
    cases sp with
    |none=>rfl
    |some s=>simp [World.cell?,Addr.add]at h0;split at h0 <;> simp at h0
   subst hsp
   exact⟨b,o,rfl,fun j u hj=>by have:=hcell j u hj;rwa [add_lit]at this⟩
end Go.Proofs.YtombmdaohcjokaaGreatDoor
namespace Go.Proofs.YtombmdaohcjokaaGreatDoor
open Go.RowKit Go.Maps
def stepEnc (s:StepI):List Value:= [.int .i64 s.from_,.int .i64 s.to_,.int .i64 1,.int .i64 s.n,.string ByteArray.empty]
def Rep.step:Rep StepI where
 size:=5
 holds _ cs x:=cs=stepEnc x∧okI x.from_∧okI x.to_∧okI x.n
 len:=by rintro w cs x ⟨rfl,_⟩;rfl
 ext:=by rintro w w' cs x h _;exact h
 one:=by rintro w cs x ⟨rfl,_⟩;simp [stepEnc,Value.oneCell']
structure MapIs (D:DataW Unit) (l:List Tup):Prop where
 map:IsMap D
 val : ∀x,D.atKey (.int .i64 x) (.lit (.int .i64 0)) = .lit (.int .i64 (chg l x))
 has : ∀x,Maps.has D (.int .i64 x)=true↔x∈bnd l
def ColI (D:DataW Unit) (left:Lit→Bool) (ss:List Int):Prop:=ss.Nodup∧ ∀x,x∈ss↔(Maps.has D (.int .i64 x)=true∧left (.int .i64 x)=false)
end Go.Proofs.YtombmdaohcjokaaGreatDoor
namespace Go.Proofs.YtombmdaohcjokaaGreatDoor
open Go.RowKit Go.Maps
def fDep (l:List Tup) (i:Nat):Int:=cntAt l (pts l)[i]!
theorem depthOf_eq (l:List Tup):depthOf l=stepsOf (pts l) (fDep l) ((pts l).length - 1):=rfl
end Go.Proofs.YtombmdaohcjokaaGreatDoor
namespace Go.Proofs.YtombmdaohcjokaaGreatDoor
open Go.RowKit Go.Shelf Go.Sort
def cmpPer (x y:Per):Int:=cmpI x.from_ y.from_
def okPer (p:Per):Bool:=validB p.from_ p.to_
theorem alloc_size (w:World) (o:Obj):(w.alloc o).heap.size=w.heap.size+1:=by simp
def perOf (t:Tup):Per:=⟨t.from_,t.to_⟩
end Go.Proofs.YtombmdaohcjokaaGreatDoor
