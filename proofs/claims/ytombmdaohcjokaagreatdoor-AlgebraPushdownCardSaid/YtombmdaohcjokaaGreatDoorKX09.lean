/- joined texts of a proof: ChkD, AlgC, PlainM, PlainJ, PlainH, AggX, RefU, AggM, RefS, RefW, BagT -/
import Derived.Test.YtombmdaohcjokaaGreatDoorKX08
import Derived.Test.YtombmdaohcjokaaGreatDoorKX07
import Derived.Lib.SlicesS
import Derived.Test.YtombmdaohcjokaaGreatDoorKX03
import Derived.Test.YtombmdaohcjokaaGreatDoorKX04
import Derived.Test.YtombmdaohcjokaaGreatDoorKX05
import Derived.Shelf.Spec.BitsCarry
import Derived.WalkArith
import Derived.Laws.BitsLemmas
import Derived.Test.YtombmdaohcjokaaGreatDoorKX01
import Derived.Test.YtombmdaohcjokaaGreatDoorKX02
namespace Go.Proofs.YtombmdaohcjokaaGreatDoor
open Go.RowKit
theorem okI_sml {k:Int} (h0:0≤k) (h1:k≤1000):okI k:=⟨by omega,by omega⟩
theorem combineE_ok {x:ExprI} (hc:okVal x.c) {ks cols:List Int} (hk : ∀k∈cols,okI k):okI (combineE x ks cols).1:=by
 have h0:okI 0:=okI_sml (by decide) (by decide)
 have h1:okI 1:=okI_sml (by decide) (by decide)
 have h3:okI 3:=okI_sml (by decide) (by decide)
 unfold combineE
 repeat' split
 all_goals first
 |exact h0
 |exact h1
 |exact h3
 |exact hc.1
 |skip
 show okI (cols.getD _ 0)
 rw [List.getD_eq_getElem?_getD]
 cases h:cols[x.col.toNat]? with
 |none=>exact h0
 |some k=>exact hk k (List.mem_of_getElem? h)
theorem chkStep_ok {x:ExprI} (hc:okVal x.c) {cols:List Int} (hk : ∀k∈cols,okI k) (D:List (Int×Int)):okI (chkStep cols D x).1:=by
 have h0:okI 0:=okI_sml (by decide) (by decide)
 unfold chkStep
 repeat' split
 all_goals first
 |exact h0
 |exact combineE_ok hc hk
theorem okVal_nV:okVal nV:=by
 refine⟨?_,?_,?_⟩ <;> decide
theorem resOk {es:List ExprI} {cols:List Int} (he : ∀x∈es,okVal x.c) (hk : ∀k∈cols,okI k):ResOk es cols:=fun j=>by
 refine chkStep_ok ?_ hk _
 by_cases h:j<es.length
 ·rw [getElem!_pos es j h];exact he _ (List.getElem_mem h)
 ·rw [getElem!_neg es j h];exact okVal_nV
theorem ints_ok {h:View} {v:Value} {xs:List Int} (k:SliceOf Rep.int h v xs) : ∀x∈xs,okI x:=by
 intro x hx
 obtain⟨i,hi,rfl⟩:=List.getElem_of_mem hx
 obtain⟨p,cap,rfl,_,_,hp⟩:=k.form
 obtain⟨b,o,rfl⟩:=hp (by decide) (by omega)
 exact(int_at k i hi).2
theorem checkE_in {es:List ExprI} {cols:List Int} {root:Nat} (h:root<es.length) (hl:es.length≤200):checkE es cols root=resE es cols root:=by
 unfold checkE
 rw [if_neg (by omega),if_neg (by omega)]
 exact chkAll_get es cols (root+1) root (by omega)
theorem info_checked:(Tryz.prog.info? 380).map (fun i=>(i.zero,i.size,i.bytes))=some (some (.agg #[.bool false,.int .i64 0,.int .i64 0]),3,24):=by kernel_rfl
theorem Ext.on {w w':World} {R:Nat} (hx:Ext w w') (hR:w.heap.size≤R) : ∀p u,w.cell? p=some u→(on w' fun b=>b≠R) p=some u:=fun p u h =>
 on_some.2 ⟨fun e=>by have:=World.block_lt_of_cell? w p h;omega,hx.at h⟩
set_option maxRecDepth 100000 in
set_option maxHeartbeats 4000000 in
theorem exprCheck_any (v vc:Value) (es:List ExprI) (cols:List Int) (root:Int) (w:World) (he:SliceOf Rep.expr w.cell? v es) (hc:SliceOf Rep.int w.cell? vc cols) :
  Calls Tryz.prog 201 #[v,.int .i64 root,vc] w fun e w'=>e = .returned (.tuple #[.int .i64 (checkE es cols root).1,.int .i64 (checkE es cols root).2])∧Ext w w':=by
 obtain⟨i3,hi3,hz30,hz31,hz32⟩:=info_parts info_checked
 have HRO:=Lib.hid (resOk (fun x hx=>(expr_ok he x hx).2) (ints_ok hc))
 have HC:=Lib.hid hc
 obtain⟨p,cap,rfl,_,_,_⟩:=he.form
 obtain⟨q,qc,rfl,_⟩:=hc.form
 have HE:=Lib.hid he
 obtain⟨N,hN⟩ : ∃N,N=es.length:=⟨_,rfl⟩
 rw [←hN]
 have HN:=Lib.hid hN
 obtain⟨L,hL⟩ : ∃N,N=cols.length:=⟨_,rfl⟩
 rw [←hL]
 have HL:=Lib.hid hL
 by_cases h1:200<N
 ·have d1:decide ((200:Int)<(N:Int))=true:=by simp;omega
  have HR:=Lib.hid (show checkE es cols root=(0,4)from if_pos (by omega))
  clear he hc hN hL h1
  go_enter Tryz.func201,Tryz.ntmps201
  go_wp2_with fail
  exact bodyPost_ret (v:= .tuple #[.int .i64 0,.int .i64 4]) (by simp [results,Tryz.results201,go_sem]) rfl ⟨by rw [HR.out],Ext.refl w⟩
 ·have d1:decide ((200:Int)<(N:Int))=false:=by simp;omega
  by_cases h2:root<0
  ·have d2:decide (root<0)=true:=decide_eq_true h2
   have HR:=Lib.hid (show checkE es cols root=(0,10)from by unfold checkE;rw [if_neg (by omega),if_pos (.inl h2)])
   clear he hc hN hL h1
   go_enter Tryz.func201,Tryz.ntmps201
   go_wp2_with fail
   exact bodyPost_ret (v:= .tuple #[.int .i64 0,.int .i64 10]) (by simp [results,Tryz.results201,go_sem]) rfl ⟨by rw [HR.out],Ext.refl w⟩
  ·have d2:decide (root<0)=false:=decide_eq_false h2
   by_cases h3:(N:Int)≤root
   ·have d3:decide ((N:Int)≤root)=true:=decide_eq_true h3
    have HR:=Lib.hid (show checkE es cols root=(0,10)from by unfold checkE;rw [if_neg (by omega),if_pos (.inr (by omega))])
    clear he hc hN hL h1
    go_enter Tryz.func201,Tryz.ntmps201
    go_wp2_with fail
    exact bodyPost_ret (v:= .tuple #[.int .i64 0,.int .i64 10]) (by simp [results,Tryz.results201,go_sem]) rfl ⟨by rw [HR.out],Ext.refl w⟩
   ·have d3:decide ((N:Int)≤root)=false:=decide_eq_false h3
    obtain⟨i,rfl⟩ : ∃i:Nat,root=i:=⟨root.toNat,by omega⟩
    have hiN:i<N:=by omega
    have hN2:N≤200:=by omega
    have hN0:0<N:=by omega
    have HR:=Lib.hid (show checkE es cols i=resE es cols i from checkE_in (by omega) (by omega))
    obtain⟨rk,hrk⟩ : ∃z,z=(checkE es cols i).1:=⟨_,rfl⟩
    obtain⟨re,hre⟩ : ∃z,z=(checkE es cols i).2:=⟨_,rfl⟩
    rw [←hrk,←hre]
    have HRK:=Lib.hid (And.intro hrk hre)
    clear he hc hN hL h1 h2 h3 hrk hre
    go_enter Tryz.func201,Tryz.ntmps201
    go_wp2_with (at_make;go_loud (refine wpList_make_full _ rfl _ _ 343 rfl w.heap.size 380 i3 _ 3 Tryz.underlying343 hi3 hz30 hz31 .i64 .i64 (N:Int) (N:Int) N rfl rfl rfl rfl (by rw [hz32];omega) (by unfold maxLen;omega) (by simp) ?_))
    intro w1 own1 gr1
    have HOWN:=Lib.hid own1
    have X1:=Lib.hid (ext_grown (Ext.refl w) gr1 (fun k hk=>by cases hk))
    have hsz:=own_cells own1 hN0
    obtain⟨g',cap',e1,_,hg1,_,_,hcc⟩:=hsz
    have eg:g'=w.heap.size:=by
     injection e1 with e1
     injection e1 with e1
     injection e1 with e1
     exact e1.symm
    subst eg
    have HCC:=Lib.hid hcc
    clear own1 gr1 hcc e1
    go_wp2_with fail
    have X2:=Lib.hid ((Ext.refl w1).alloc (.cells #[.slice p N cap,.slice q L qc,.slice (some ⟨w.heap.size,0,none⟩) N N] 345))
    have HF:=Lib.hid (FreeN.made HOWN.out)
    refine(check_all w1.heap.size w.heap.size es cols (by have:=HN.out;omega) HRO.out i (by have:=HN.out;omega) _ ?_).mono ?_
    ·refine⟨⟨.slice p N cap,by go_simp,?_⟩,⟨.slice q L qc,by go_simp,?_⟩,?_,by omega,?_⟩
     ·have h:=HE.out
      rw [←HN.out]at h
      exact h.ext (Ext.on (X1.out.trans X2.out) (Nat.le_refl _))
     ·have h:=HC.out
      rw [←HL.out]at h
      exact h.ext (Ext.on (X1.out.trans X2.out) (Nat.le_refl _))
     ·rw [←HN.out];go_simp
     ·intro j hj
      rw [←HN.out]at hj
      obtain⟨_,f0⟩:=HF.out (j*3) (by omega)
      obtain⟨_,f1⟩:=HF.out (j*3+1) (by omega)
      obtain⟨_,f2⟩:=HF.out (j*3+2) (by omega)
      have c0:=HCC.out (j*3) _ (made3 _ _ _ N j 0 hj (by omega))
      have c1:=HCC.out (j*3+1) _ (made3 _ _ _ N j 1 hj (by omega))
      have c2:=HCC.out (j*3+2) _ (made3 _ _ _ N j 2 hj (by omega))
      exact⟨false,0,0,X2.out.at c0,X2.out.at c1,X2.out.at c2,X2.out.unfrozen c0 f0,X2.out.unfrozen c1 f1,X2.out.unfrozen c2 f2,fun h=>by cases h⟩
    rintro e w3 ⟨rfl,_,ch⟩
    have HX3:=Lib.hid (ch.below (X1.out.trans X2.out) (fun b hb=>by rw [hb];exact Nat.le_refl _))
    rw [←HR.out,←HRK.out.1,←HRK.out.2]
    clear ch
    go_wp2_with fail
    exact bodyPost_ret (v:= .tuple #[.int .i64 rk,.int .i64 re]) (by simp [results,Tryz.results201,go_sem]) rfl ⟨rfl,HX3.out⟩
end Go.Proofs.YtombmdaohcjokaaGreatDoor
namespace Go.Proofs.YtombmdaohcjokaaGreatDoor
open Go.RowKit
def predK (k:Int):Bool:=decide (k=2)||(decide (k=4)||decide (k=5))
def exprK (k:Int):Bool:=decide (k=3)||decide (k=10)
set_option maxHeartbeats 1000000 in
theorem isBinary_any (k:Int) (w:World):Calls Tryz.prog 143 #[.int .i64 k] w fun e w'=>e = .returned (.bool (binK k))∧w'=w:=by
 by_cases h:k=4∨k=5∨k=6∨k=7∨k=8
 ·rcases h with rfl | rfl | rfl | rfl | rfl
  all_goals
   go_enter Tryz.func143,Tryz.ntmps143
   go_wp2_with fail
   go_ret
   exact⟨rfl,rfl⟩
 ·have b4:(k==4)=false:=by simp;omega
  have b5:(k==5)=false:=by simp;omega
  have b6:(k==6)=false:=by simp;omega
  have b7:(k==7)=false:=by simp;omega
  have b8:(k==8)=false:=by simp;omega
  have hb:binK k=false:=by unfold binK;simp;omega
  rw [hb]
  clear h hb
  go_enter Tryz.func143,Tryz.ntmps143
  go_wp2_with fail
  go_ret
  exact⟨rfl,rfl⟩
theorem own_row {α:Type} {R:Rep α} {w:World} {S:Nat→Prop} {base:Nat} {e:TypeId} {v:Value} {gs:List (List α)} (h:OwnOf (Rep.slice R) w S base e v gs) (i:Nat) (hi:i<gs.length) :
  ∃g cap u,v = .slice (some ⟨g,0,none⟩) gs.length cap∧w.cell? ⟨g,i,none⟩=some u∧SliceOf R (on w (avoid S v)) u gs[i]:=by
 obtain⟨css,h1,h2⟩:=h
 obtain⟨g,cap,rfl,_,_,_,_,hc⟩:=own_cells h2 (by omega)
 obtain⟨c,⟨u,rfl,hu⟩,-,hx⟩:=h1.at i hi
 refine⟨g,cap,u,rfl,hc i u ?_,hu⟩
 have:=hx 0 u rfl
 simpa [Rep.slice] using this
structure CkA (w:World) (C:Nat) (q:QueryI) (types:List TypI) (vc:Value) (done:List (List Int)):Prop where
 nn : ∃v,w.cell? ⟨C,0,none⟩=some v∧SliceOf Rep.node (on w (avoid (fun b=>b≠C) vc)) v q.nodes
 ee : ∃v,w.cell? ⟨C,1,none⟩=some v∧SliceOf Rep.expr (on w (avoid (fun b=>b≠C) vc)) v q.exprs
 tt : ∃v,w.cell? ⟨C,2,none⟩=some v∧SliceOf Rep.typ (on w (avoid (fun b=>b≠C) vc)) v types
 cc:w.cell? ⟨C,3,none⟩=some vc
 ff:w.frozen? ⟨C,3,none⟩=false
 own:OwnOf (Rep.slice Rep.int) w (fun b=>b≠C) (C+1) 29 vc done
theorem CkA.ext {w w':World} {C:Nat} {q:QueryI} {types:List TypI} {vc:Value} {done:List (List Int)} (h:CkA w C q types vc done) (hx:Ext w w'):CkA w' C q types vc done:=by
 obtain⟨⟨v1,a1,b1⟩,⟨v2,a2,b2⟩,⟨v3,a3,b3⟩,h4,h5,h6⟩:=h
 exact⟨⟨v1,hx.at a1,b1.ext (hx.sub _)⟩,⟨v2,hx.at a2,b2.ext (hx.sub _)⟩,⟨v3,hx.at a3,b3.ext (hx.sub _)⟩,hx.at h4,hx.unfrozen h4 h5,h6.ext hx⟩
theorem CkA.new {w w':World} {C:Nat} {q:QueryI} {types:List TypI} {vc:Value} {done:List (List Int)} (h:CkA w C q types vc done) {α:Type} {R:Rep α} {v:Value} {xs:List α} (hs:SliceOf R (on w' (fun k=>w.heap.size≤k)) v xs):SliceOf R (on w' (avoid (fun b=>b≠C) vc)) v xs :=
 hs.ext (on_mono w' fun k _ hk=>⟨fun e=>by have:=(h.own.lt k e.symm).2;omega,fun e=>by have h1:=cell_lt h.cc;have h2:w.heap.size≤k:=hk;omega⟩)
theorem scanC_cons (t:TypI) (ts:List TypI) (nm:ByteArray):scanC (t::ts) nm=if t.name=nm then(t.kinds,0)else scanC ts nm:=by
 unfold scanC
 by_cases h:t.name=nm
 ·rw [List.find?_cons_of_pos (by simp [h]),if_pos h]
 ·rw [List.find?_cons_of_neg (by simp [h]),if_neg h]
set_option maxRecDepth 100000 in
set_option maxHeartbeats 4000000 in
theorem scan_any (C:Nat) (q:QueryI) (types:List TypI) (vc:Value) (done:List (List Int)) (nm:ByteArray) (w:World) (hX:CkA w C q types vc done) (htl:types.length≤1048576) :
  Calls Tryz.prog 142 #[.pointer (some ⟨C,0,none⟩),.string nm] w fun e w'=> ∃v,e = .returned (.tuple #[v,.int .i64 (scanC types nm).2])∧SliceOf Rep.int (on w' (avoid (fun b=>b≠C) vc)) v (scanC types nm).1∧Ext w w':=by
 have HX:=Lib.hid hX
 obtain⟨vt,t0,t1⟩:=hX.tt
 obtain⟨pt,ct,rfl,_,_,hpt⟩:=t1.form
 have HT:=Lib.hid t1
 obtain⟨N,hN⟩ : ∃z,z=types.length:=⟨_,rfl⟩
 rw [←hN]at t0 hpt htl HT
 have HN:=Lib.hid hN
 have HPT:=Lib.hid hpt
 have et:=cell_lt t0
 clear hX t1 hpt hN
 go_enter Tryz.func142,Tryz.ntmps142
 go_wp2_with fail
 go_loopg [13] N (fun gk vi wr=> ∃(k:Nat),k≤N∧gk=N - k∧vi = .int .i64 k∧Hid (scanC types nm=scanC (types.drop k) nm)∧Hid (Ext w wr))
 case atStart=>exact⟨0,by omega,rfl,rfl,rfl,Ext.refl w⟩
 case round =>
  obtain⟨k,hk,rfl,rfl,HS,HXX⟩:=hrel
  by_cases hlt:k<N
  ·have hd:decide ((k:Int)<(N:Int))=true:=by simp;omega
   have hkN:(k:Int)<(N:Int):=by omega
   obtain⟨bt,ot,rfl⟩:=HPT.out (by decide) (by omega)
   have hkt:k<types.length:=by have:=HN.out;omega
   obtain⟨vk,c0,c1,ck,-⟩:=typ_at (by have h:=HT.out;rw [HN.out]at h;exact h) k hkt
   have HK:=Lib.hid (ck.ext (HXX.out.sub _))
   replace c0:=HXX.out.at (on_some.1 c0).2
   replace c1:=HXX.out.at (on_some.1 c1).2
   have HDR:=Lib.hid (show types.drop k=types[k]::types.drop (k+1)from List.drop_eq_getElem_cons hkt)
   generalize types[k]=t at c0 c1 HK HDR
   obtain⟨tn,tk⟩:=t
   dsimp only at c0 c1
   have ec:=cell_lt c0
   obtain⟨pk,kk,rfl,_⟩:=HK.out.form
   dsimp only at c1
   have HS2:=Lib.hid (HS.out.trans (by rw [HDR.out,scanC_cons]))
   clear ck hkt HS HDR
   by_cases hn:tn=nm
   ·have bn:(tn.toList==nm.toList)=true:=(Lib.bytes_beq_iff tn nm).2 hn
    have HR:=Lib.hid (show scanC types nm=(tk,0)from HS2.out.trans (if_pos hn))
    clear hn HS2
    go_wp2_with fail
    exact bodyPost_ret (v:= .tuple #[.slice pk tk.length kk,.int .i64 0]) (by simp [results,Tryz.results142,go_sem]) rfl ⟨_,by rw [HR.out],by rw [HR.out];exact HK.out.ext (Ext.sub ((Ext.refl wr).alloc _) _),HXX.out.trans ((Ext.refl wr).alloc _)⟩
   ·have bn:(tn.toList==nm.toList)=false:=Bool.eq_false_iff.2 fun h=>hn ((Lib.bytes_beq_iff tn nm).1 h)
    have HS3:=Lib.hid (show scanC types nm=scanC (types.drop (k+1)) nm from HS2.out.trans (if_neg hn))
    clear hn HS2
    go_wp2_with fail
    go_roundg (N - (k+1))
    case measure=>omega
    case rel=>exact⟨k+1,by omega,rfl,by go_num,HS3.out,HXX.out.trans ((Ext.refl wr).alloc _)⟩
  ·have hd:decide ((k:Int)<(N:Int))=false:=by simp;omega
   have HR:=Lib.hid (show scanC types nm=([],8)from by
    rw [HS.out,List.drop_of_length_le (by have:=HN.out;omega)]
    rfl)
   clear HS
   go_wp2_with fail
   exact bodyPost_ret (v:= .tuple #[.slice none 0 0,.int .i64 8]) (by simp [results,Tryz.results142,go_sem]) rfl ⟨_,by rw [HR.out],by rw [HR.out];exact SliceOf.nil _ _,HXX.out⟩
end Go.Proofs.YtombmdaohcjokaaGreatDoor
namespace Go.Proofs.YtombmdaohcjokaaGreatDoor
open Go.RowKit
def runL (c:Int→Nat) (l:List Int) (q:List Int×List Per):List Int×List Per:=l.foldl (fun q x=>levStep (c x) x q) q
def Still (c:Int→Nat) (p:Int→Bool):Nat→List Int→Prop
 |_,[]=>True
 |d,x::l=>(p x=false→c x=d)∧Still c p (c x) l
section
open Classical
end
end Go.Proofs.YtombmdaohcjokaaGreatDoor
namespace Go.Proofs.YtombmdaohcjokaaGreatDoor
open Go.RowKit
def pairRow (x y:Row):Row:=⟨x.vals++y.vals,mergeL x.lin y.lin⟩
def meetT (x y:Tup):List Tup:=if validT x=true∧validT y=true∧max x.from_ y.from_<min x.to_ y.to_ then [tupOf (pairRow (tupRow x) (tupRow y)) ⟨max x.from_ y.from_,min x.to_ y.to_⟩]else []
def tupD:Tup:=⟨[],0,0,[]⟩
def pairT (a b:List Tup) (p:Pair):Tup:=tupOf (pairRow (tupRow (a.getD p.a tupD)) (tupRow (b.getD p.b tupD))) ⟨p.from_,p.to_⟩
def joinRaw (tr:List Val→Bool) (a b:List Tup):List Tup:=((pairsOf a b).map (pairT a b)).filter fun t=>tr t.vals
def joinRow (tr:List Val→Bool) (B:List Row) (x:Row):List Row:=(B.map (pairRow x)).filter fun r=>tr r.vals
def snapJoin (tr:List Val→Bool) (A B:List Row):List Row:=A.flatMap (joinRow tr B)
noncomputable def innerT (tr:List Val→Bool) (a b:List Tup):List Tup:=normT (joinRaw tr a b)
def subP1 (tz:Int):Int→List Per→List Per
 |at_,[]=>if at_<tz then [⟨at_,tz⟩]else []
 |at_,q::qs=>if q.to_≤at_∨tz≤q.from_ then subP1 tz at_ qs else(if at_<q.from_ then [⟨at_,q.from_⟩]else [])++subP1 tz q.to_ qs
def subPs (a b:List Per):List Per:=(refNorm a).flatMap fun p=>subP1 p.to_ p.from_ (refNorm b)
def partners (tr:List Val→Bool) (a b:List Tup) (i:Nat):List Per:=((pairsOf a b).filter fun p=>decide (p.a=i)&&tr (pairT a b p).vals).map fun p=>⟨p.from_,p.to_⟩
def padRow (w:Nat) (r:Row):Row:=⟨r.vals++List.replicate w nV,r.lin⟩
def padAt (tr:List Val→Bool) (w:Nat) (a b:List Tup) (k:Nat):List Tup:=(subPs [tupPer (a.getD k tupD)] (partners tr a b k)).map (tupOf (padRow w (tupRow (a.getD k tupD))))
def padUpto (tr:List Val→Bool) (w:Nat) (a b:List Tup):Nat→List Tup
 |0=> []
 |k+1=>padUpto tr w a b k++padAt tr w a b k
def leftRaw (tr:List Val→Bool) (w:Nat) (a b:List Tup):List Tup:=joinRaw tr a b++padUpto tr w a b a.length
noncomputable def leftT (tr:List Val→Bool) (w:Nat) (a b:List Tup):List Tup:=normT (leftRaw tr w a b)
def padOf (w:Nat) (m:List Row) (x:Row):List Row:=if m.isEmpty=true then [padRow w x]else []
def snapLeft (tr:List Val→Bool) (w:Nat) (A B:List Row):List Row:=A.flatMap fun x=>joinRow tr B x++padOf w (joinRow tr B x) x
def cutT (t:Tup):Int→List Int→List Tup
 |from_,[]=> [⟨t.vals,from_,t.to_,t.lin⟩]
 |from_,p::ps=>if t.to_≤p then [⟨t.vals,from_,t.to_,t.lin⟩]else if from_<p then⟨t.vals,from_,p,t.lin⟩::cutT t p ps else cutT t from_ ps
def splitT (l:List Tup) (P:List Int):List Tup:=l.flatMap fun t=>if validT t=true then cutT t t.from_ P else []
end Go.Proofs.YtombmdaohcjokaaGreatDoor
namespace Go.Proofs.YtombmdaohcjokaaGreatDoor
open Go.RowKit
def daySlice (l:List Tup) (t:Int):List Row:=if 0≤t∧t<1000000 then sliceRows l t else []
section
open Classical
variable (proj:List Val→List Val) (aggV:List (List Val)→List Val)
def gRowS (kv:List Val) (S:List Row):Row:=⟨kv++aggV (S.map Row.vals),mergeL (S.flatMap Row.lin) []⟩
noncomputable def selS (S:List Row) (kv:List Val):List Row:=S.filter fun r=>decide (proj r.vals=kv)
noncomputable def gSnap (always:Bool) (S:List Row):List Row:=(if always=true then [[]]else once (S.map fun r=>proj r.vals)).map fun kv=>gRowS aggV kv (selS proj S kv)
end
end Go.Proofs.YtombmdaohcjokaaGreatDoor
namespace Go.Proofs.YtombmdaohcjokaaGreatDoor
open Go.RowKit
theorem add64N (x y c:Nat) (hc:c≤1) (w:World):(callFunc 267 #[.int .u64 x,.int .u64 y,.int .u64 c]).run Tryz.prog w =
  .ok (.value (.tuple #[.int .u64 (((x+y+c) % 18446744073709551616:Nat):Int),.int .u64 (((x+y+c) / 18446744073709551616:Nat):Int)])) w:=by
 rw [run_callFunc_extern Tryz.func267 (by kernel_rfl) (by kernel_rfl) (by kernel_rfl) (e:=add64Entry) (by kernel_rfl),run_add64 x y c (by omega) (by omega) (by omega) (by omega)]
 simp only [Result.andThen]
 congr 5 <;> omega
theorem add64_0 (x y:Int) (hx:0≤x) (hy:0≤y) (w:World):(callFunc 267 #[.int .u64 x,.int .u64 y,.int .u64 0]).run Tryz.prog w =
  .ok (.value (.tuple #[.int .u64 ((x+y) % 18446744073709551616),.int .u64 ((x+y) / 18446744073709551616)])) w:=by
 obtain⟨x,rfl⟩:=Int.eq_ofNat_of_zero_le hx
 obtain⟨y,rfl⟩:=Int.eq_ofNat_of_zero_le hy
 refine(add64N x y 0 (by omega) w).trans ?_
 congr 5 <;> omega
def wideV (S:Int):Value:= .agg #[.int .i64 (wideHi S),.int .u64 (wideLo S)]
set_option maxRecDepth 100000 in
theorem widen_any (n:Int) (w:World) (h0 : -9223372036854775808≤n) (h1:n≤9223372036854775807):Calls Tryz.prog 233 #[.int .i64 n] w fun e w'=>e = .returned (wideV n)∧Ext w w':=by
 have hh:n / 9223372036854775808=wideHi n:=by unfold wideHi;omega
 have hl:IntKind.u64.wrap n=wideLo n:=by unfold wideLo;rw [IntKind.wrap_u64]
 go_enter Tryz.func233,Tryz.ntmps233
 go_wp2_with fail
 exact bodyPost_ret (v:=wideV n) (by simp [results,Tryz.results233,go_sem,wideV]) rfl ⟨rfl,(Ext.refl w).alloc _⟩
set_option maxRecDepth 100000 in
theorem plus_any (S T:Int) (w:World) (h0 : -10141204801825835211973625643008≤S∧S≤10141204801825835211973625643008) (h1 : -10141204801825835211973625643008≤T∧T≤10141204801825835211973625643008):Calls Tryz.prog 232 #[wideV S,wideV T] w fun e w'=>e = .returned (wideV (S+T))∧Ext w w':=by
 unfold wideV
 obtain⟨a,ha⟩ : ∃a,a=wideHi S:=⟨_,rfl⟩
 obtain⟨b,hb⟩ : ∃a,a=wideLo S:=⟨_,rfl⟩
 obtain⟨c,hc⟩ : ∃a,a=wideHi T:=⟨_,rfl⟩
 obtain⟨d,hd⟩ : ∃a,a=wideLo T:=⟨_,rfl⟩
 rw [←ha,←hb,←hc,←hd]
 unfold wideHi at ha hc
 unfold wideLo at hb hd
 have hb0:0≤b:=by omega
 have hd0:0≤d:=by omega
 have HHI:=Lib.hid (show a+c+(b+d) / 18446744073709551616=wideHi (S+T)from by unfold wideHi;omega)
 have HLO:=Lib.hid (show (b+d) % 18446744073709551616=wideLo (S+T)from by unfold wideLo;omega)
 have hw1:IntKind.i64.wrap (a+c)=a+c:=by rw [IntKind.wrap_i64];omega
 have hw2:IntKind.i64.wrap ((b+d) / 18446744073709551616)=(b+d) / 18446744073709551616:=by rw [IntKind.wrap_i64];omega
 have hw3:IntKind.i64.wrap (a+c+(b+d) / 18446744073709551616)=a+c+(b+d) / 18446744073709551616:=by rw [IntKind.wrap_i64];omega
 have HA:=add64_0 b d hb0 hd0
 clear ha hb hc hd h0 h1
 go_enter Tryz.func232,Tryz.ntmps232
 go_wp2_with (simp only [HA])
 exact bodyPost_ret (v:= .agg #[.int .i64 (wideHi (S+T)),.int .u64 (wideLo (S+T))]) (by rw [←HHI.out,←HLO.out];simp [results,Tryz.results232,go_sem]) rfl ⟨rfl,(((Ext.refl w).alloc _).alloc _).alloc _⟩
set_option maxRecDepth 100000 in
theorem int64_any (S:Int) (w:World) (h0 : -10141204801825835211973625643008≤S∧S≤10141204801825835211973625643008):Calls Tryz.prog 234 #[wideV S] w fun e w'=> ∃n b,e = .returned (.tuple #[.int .i64 n,.bool b])∧(b=true↔ -9223372036854775808≤S∧S≤9223372036854775807)∧(b=true→n=S)∧Ext w w':=by
 unfold wideV
 obtain⟨a,ha⟩ : ∃a,a=wideHi S:=⟨_,rfl⟩
 obtain⟨b,hb⟩ : ∃a,a=wideLo S:=⟨_,rfl⟩
 rw [←ha,←hb]
 unfold wideHi at ha
 unfold wideLo at hb
 obtain⟨n,hn⟩ : ∃n,IntKind.i64.wrap b=n:=⟨_,rfl⟩
 have hn':=hn
 rw [IntKind.wrap_i64]at hn'
 obtain⟨q,hq⟩ : ∃q,n / 9223372036854775808=q:=⟨_,rfl⟩
 have H1:=Lib.hid (show (a==q)=true↔ -9223372036854775808≤S∧S≤9223372036854775807 from by rw [beq_iff_eq];omega)
 have H2:=Lib.hid (show (a==q)=true→n=S from by rw [beq_iff_eq];omega)
 clear ha hb h0 hn'
 go_enter Tryz.func234,Tryz.ntmps234
 go_wp2_with fail
 go_region
 go_wp2_with fail
 go_ret2
 exact⟨n,a==q,rfl,H1.out,H2.out,((Ext.refl w).alloc _).drew⟩
set_option maxRecDepth 100000 in
set_option maxHeartbeats 4000000 in
theorem sum_any (v:Value) (xs:List Val) (w:World) (hv:SliceOf Rep.val w.cell? v xs) (hl:xs.length≤1048576):Calls Tryz.prog 183 #[v] w fun e w'=>e = .returned (valV (sumV xs))∧Ext w w':=by
 obtain⟨p,cap,rfl,hc1,hc2,hp⟩:=hv.form
 obtain⟨N,hN⟩ : ∃N,N=xs.length:=⟨_,rfl⟩
 have HV:=Lib.hid hv
 rw [←hN]
 have HN:=Lib.hid hN
 have HP:=Lib.hid hp
 have hNl:N≤1048576:=by omega
 clear hv hl hp hc1 hc2 hN
 have HOK:=Lib.hid (vals_ok HV.out)
 go_enter Tryz.func183,Tryz.ntmps183
 go_wp2_with fail
 obtain⟨Q,hQ⟩ : ∃q,q=w.heap.size:=⟨_,rfl⟩
 have HQ:=Lib.hid hQ
 rw [←hQ]
 go_loopg [4,11] N (fun gk vb vi wr=> ∃k:Nat,k≤N∧gk=N - k∧vi = .int .i64 k∧vb = .bool (anyI (xs.take k))∧Hid (wr.cell? ⟨Q+1,0,none⟩=some (.int .i64 (wideHi (sumI (xs.take k))))∧wr.cell? ⟨Q+1,1,none⟩=some (.int .u64 (wideLo (sumI (xs.take k))))∧wr.frozen? ⟨Q+1,0,none⟩=false∧wr.frozen? ⟨Q+1,1,none⟩=false)∧Hid (FreeN wr Q 3)∧Hid (Ext w wr))
 case atStart =>
  refine⟨0,by omega,rfl,rfl,rfl,⟨?_,?_,?_,?_⟩,fun j hj=> ?_,((Ext.refl w).alloc _).alloc _⟩
  ·rw [hQ];go_simp;rfl
  ·rw [hQ];go_simp;rfl
  ·rw [hQ];go_simp
  ·rw [hQ];go_simp
  ·rw [hQ]
   match j,hj with
   |0,_=>exact⟨⟨.int .i64 0,by go_simp⟩,by go_simp⟩
   |1,_=>exact⟨⟨.int .i64 0,by go_simp⟩,by go_simp⟩
   |2,_=>exact⟨⟨.string ⟨#[]⟩,by go_simp⟩,by go_simp⟩
 case round =>
  clear hQ
  obtain⟨k,hk,rfl,rfl,rfl,TT,FR,HX⟩:=hrel
  by_cases hlt:k<N
  ·have hkl:k<xs.length:=by have:=HN.out;omega
   have hd:decide ((k:Int)<(N:Int))=true:=by simp;omega
   obtain⟨b,o,rfl⟩:=HP.out (by decide) (by omega)
   have hv:=HV.out
   rw [←HN.out]at hv
   obtain⟨c0,c1,c2,r0,r1⟩:=val_cells hv k hkl
   replace c0:=HX.out.at c0
   replace c1:=HX.out.at c1
   replace c2:=HX.out.at c2
   have hst:=sumI_take xs k hkl
   have hat:=anyI_take xs k hkl
   have hbd:=sumI_bound (xs:=xs.take k) (b:=9223372036854775808) (by decide) (fun v hv=>by have:=(HOK.out v (List.mem_of_mem_take hv)).2.1;omega)
   rw [List.length_take,Nat.min_eq_left (by omega)]at hbd
   obtain⟨S,hS⟩ : ∃S,S=sumI (xs.take k):=⟨_,rfl⟩
   rw [←hS]at TT hst hbd
   have hS1 : -10141204801825835211973625643008≤S∧S≤10141204801825835211973625643008:=by omega
   generalize xs[k]=y at c0 c1 c2 r0 r1 hst hat
   obtain⟨yk,yn,ys⟩:=y
   dsimp only at c0 c1 c2 r0 r1 hst hat
   have e0:=cell_lt c0
   have m0:=TT.out.1
   have m1:=TT.out.2.1
   have e1:=cell_lt m0
   have HS1:=Lib.hid hS1
   have HR1:=Lib.hid r1
   have HST:=Lib.hid hst
   have HAT:=Lib.hid hat
   clear hv hbd hS hS1 r0 r1 hst hat hkl
   by_cases hyk:yk=1
   ·have hb1:(yk==1)=true:=by simp [hyk]
    have HYK:=Lib.hid hyk
    clear hyk
    go_wp2_with fail
    have k1:(wr.alloc (.cells #[.int .i64 yk,.int .i64 yn,.string ys] 61)).cell? ⟨wr.heap.size,1,none⟩=some (.int .i64 yn):=by go_simp
    have x0:Ext wr (wr.alloc (.cells #[.int .i64 yk,.int .i64 yn,.string ys] 61)):=(Ext.refl wr).alloc _
    generalize (wr.alloc (.cells #[.int .i64 yk,.int .i64 yn,.string ys] 61))=W at k1 x0 ⊢
    replace m0:=x0.at m0
    replace m1:=x0.at m1
    have X0:=Lib.hid x0.drew
    clear x0 c0 c1 c2 e0 e1
    go_region_law (first
     |((with_reducible refine key_op 21 ?_);go_simp;refine(widen_any yn _ HR1.out.1 HR1.out.2).mono ?_;rintro e w5 ⟨rfl,x5⟩;unfold wideV;have X5:Hid (Ext wr w5):=Lib.hid (X0.out.trans x5);have f0:=X5.out.at TT.out.1;have f1:=X5.out.at TT.out.2.1;have f4:=cell_lt f0)
     |((with_reducible refine key_op 22 ?_);go_simp;refine(plus_any S yn _ HS1.out (by have:=HR1.out;omega)).mono ?_;rintro e w6 ⟨rfl,x6⟩;unfold wideV;have X6:Hid (Ext wr w6):=Lib.hid (X5.out.trans x6);have l0:=X6.out.at TT.out.1;have l1:=X6.out.at TT.out.2.1;have l2:=X6.out.unfrozen TT.out.1 TT.out.2.2.1;have l3:=X6.out.unfrozen TT.out.2.1 TT.out.2.2.2;have l4:=cell_lt l0))
    all_goals
     have CH:Chg (fun x=>x=Q+1) wr ((w6.setCell ⟨Q+1,0,none⟩ (.int .i64 (wideHi (S+yn)))).setCell ⟨Q+1,1,none⟩ (.int .u64 (wideLo (S+yn)))):=((X6.out.chg (fun x=>x=Q+1)).setCell (p:=⟨Q+1,0,none⟩) (.inl rfl) _).setCell (p:=⟨Q+1,1,none⟩) (.inl rfl) _
     have X7:Ext w ((w6.setCell ⟨Q+1,0,none⟩ (.int .i64 (wideHi (S+yn)))).setCell ⟨Q+1,1,none⟩ (.int .u64 (wideLo (S+yn)))):=Below.setCell (Below.setCell (HX.out.trans X6.out) (by have:=HQ.out;show w.heap.size≤Q+1;omega) _) (by have:=HQ.out;show w.heap.size≤Q+1;omega) _
     have q0:((w6.setCell ⟨Q+1,0,none⟩ (.int .i64 (wideHi (S+yn)))).setCell ⟨Q+1,1,none⟩ (.int .u64 (wideLo (S+yn)))).cell? ⟨Q+1,0,none⟩=some (.int .i64 (wideHi (S+yn))):=by go_simp
     have q1:((w6.setCell ⟨Q+1,0,none⟩ (.int .i64 (wideHi (S+yn)))).setCell ⟨Q+1,1,none⟩ (.int .u64 (wideLo (S+yn)))).cell? ⟨Q+1,1,none⟩=some (.int .u64 (wideLo (S+yn))):=by go_simp
     have q2:((w6.setCell ⟨Q+1,0,none⟩ (.int .i64 (wideHi (S+yn)))).setCell ⟨Q+1,1,none⟩ (.int .u64 (wideLo (S+yn)))).frozen? ⟨Q+1,0,none⟩=false:=by go_simp
     have q3:((w6.setCell ⟨Q+1,0,none⟩ (.int .i64 (wideHi (S+yn)))).setCell ⟨Q+1,1,none⟩ (.int .u64 (wideLo (S+yn)))).frozen? ⟨Q+1,1,none⟩=false:=by go_simp
     generalize (w6.setCell ⟨Q+1,0,none⟩ (.int .i64 (wideHi (S+yn)))).setCell ⟨Q+1,1,none⟩ (.int .u64 (wideLo (S+yn)))=w7 at CH X7 q0 q1 q2 q3 ⊢
     have FR7:=Lib.hid (FR.out.chg CH (by omega))
     have HX7:=Lib.hid X7
     have TT7:=Lib.hid (And.intro q0 (And.intro q1 (And.intro q2 q3)))
     clear CH X7 q0 q1 q2 q3 l0 l1 l2 l3 l4 f0 f1 f4 m0 m1 k1
     go_wp2_with fail
     go_roundg (N - (k+1))
     case measure=>omega
     case rel =>
      refine⟨k+1,by omega,rfl,by go_num,?_,?_,FR7.out,HX7.out⟩
      ·rw [HAT.out,decide_eq_true HYK.out,Bool.or_true]
      ·rw [HST.out,if_pos HYK.out];exact TT7.out
   ·have hb1:(yk==1)=false:=by simp [hyk]
    have HYK:=Lib.hid hyk
    clear hyk
    go_wp2_with fail
    go_roundg (N - (k+1))
    case measure=>omega
    case rel =>
     have X1:=(Ext.refl wr).alloc (.cells #[.int .i64 yk,.int .i64 yn,.string ys] 61)
     refine⟨k+1,by omega,rfl,by go_num,?_,⟨?_,?_,?_,?_⟩,?_,HX.out.trans X1⟩
     ·rw [HAT.out,decide_eq_false HYK.out,Bool.or_false]
     ·rw [HST.out,if_neg HYK.out,Int.add_zero];exact X1.at TT.out.1
     ·rw [HST.out,if_neg HYK.out,Int.add_zero];exact X1.at TT.out.2.1
     ·exact X1.unfrozen TT.out.1 TT.out.2.2.1
     ·exact X1.unfrozen TT.out.2.1 TT.out.2.2.2
     ·exact FR.out.chg (X1.chg (fun _=>False)) (fun h=>h)
  ·have hkN:k=N:=by omega
   have hd : ¬(k:Int)<(N:Int):=by omega
   have hxt:xs.take k=xs:=by rw [hkN,HN.out];exact List.take_length
   rw [hxt]at TT
   rw [hxt]
   have hbd:=sumI_bound (xs:=xs) (b:=9223372036854775808) (by decide) (fun v hv=>by have:=(HOK.out v hv).2.1;omega)
   obtain⟨S,hS⟩ : ∃S,S=sumI xs:=⟨_,rfl⟩
   have HSV:=Lib.hid (show sumV xs=if anyI xs=true∧ -9223372036854775808≤S∧S≤9223372036854775807 then intVal S else nV from by rw [hS];rfl)
   rw [←hS]at TT hbd
   have hS1 : -10141204801825835211973625643008≤S∧S≤10141204801825835211973625643008:=by have:=HN.out;omega
   have m0:=TT.out.1
   have m1:=TT.out.2.1
   have HS1:=Lib.hid hS1
   have e1:=cell_lt m0
   generalize anyI xs=ay at HSV ⊢
   clear hkN hxt hbd hS hS1
   go_wp2_with fail
   refine(int64_any S _ HS1.out).mono ?_
   rintro e w5 ⟨n,bo,rfl,hb1,hb2,x5⟩
   have HB:=Lib.hid (And.intro hb1 hb2)
   obtain⟨⟨⟨z0,f0⟩,g0⟩,⟨⟨z1,f1⟩,g1⟩,⟨⟨z2,f2⟩,g2⟩⟩:=And.intro (FR.out.ext x5 0 (by omega)) (And.intro (FR.out.ext x5 1 (by omega)) (FR.out.ext x5 2 (by omega)))
   have X5:=Lib.hid (HX.out.trans x5)
   have e5:=cell_lt f0
   clear hb1 hb2 x5 m0 m1 e1 TT FR HX
   cases ay <;> cases bo
   all_goals
    go_wp2_with fail
    have XF : ∀u v z,Ext w (((w5.setCell ⟨Q,0,none⟩ u).setCell ⟨Q,1,none⟩ v).setCell ⟨Q,2,none⟩ z):=fun u v z=>Below.setCell (Below.setCell (Below.setCell X5.out (by have:=HQ.out;show w.heap.size≤Q;omega) _) (by have:=HQ.out;show w.heap.size≤Q;omega) _) (by have:=HQ.out;show w.heap.size≤Q;omega) _
    first
    |exact bodyPost_ret (v:= .agg #[.int .i64 0,.int .i64 0,.string ⟨#[]⟩]) (by simp [results,Tryz.results183,go_sem,f0,f1,f2]) rfl ⟨by rw [show sumV xs=nV from by rw [HSV.out];exact if_neg (fun h=>by first | exact absurd h.1 (by decide) | exact absurd (HB.out.1.2 h.2) (by decide))];rfl,XF _ _ _⟩
    |exact bodyPost_ret (v:= .agg #[.int .i64 1,.int .i64 n,.string ⟨#[]⟩]) (by simp [results,Tryz.results183,go_sem,f0,f1,f2]) rfl ⟨by rw [HSV.out,if_pos (by have h:=HB.out.1;simpa using h),show n=S from by have h:=HB.out.2;simpa using h];rfl,XF _ _ _⟩
end Go.Proofs.YtombmdaohcjokaaGreatDoor
namespace Go.Proofs.YtombmdaohcjokaaGreatDoor
open Go.RowKit
def sumF (f:Int→Int) (xs:List Val):Int:=((xs.filter fun v=>decide (v.kind=1)).map fun v=>f v.n).sum
theorem sumF_cons (f:Int→Int) (x:Val) (xs:List Val):sumF f (x::xs)=(if x.kind=1 then f x.n else 0)+sumF f xs:=by
 unfold sumF
 rw [List.filter_cons]
 by_cases c:x.kind=1
 ·rw [if_pos c,if_pos (by simp [c])];simp
 ·rw [if_neg c,if_neg (by simp [c])];simp
end Go.Proofs.YtombmdaohcjokaaGreatDoor
namespace Go.Proofs.YtombmdaohcjokaaGreatDoor
open Go.RowKit
theorem pickMin_snoc {xs:List Val} (h:xs≠ []) (y:Val):pickMin (xs ++ [y])=if cmpVal y (pickMin xs)<0 then y else pickMin xs:=by
 cases xs with
 |nil=>exact absurd rfl h
 |cons x xs =>
  show (xs ++ [y]).foldl _ x=_
  rw [List.foldl_append]
  rfl
set_option maxRecDepth 100000 in
set_option maxHeartbeats 4000000 in
theorem pickMin_any (v:Value) (xs:List Val) (w:World) (hv:SliceOf Rep.val w.cell? v xs) (hne:xs≠ []):Calls Tryz.prog 184 #[v,.func (.func 120) #[] #[]] w fun e w'=>e = .returned (valV (pickMin xs))∧Ext w w':=by
 obtain⟨p,cap,rfl,hc1,hc2,hp⟩:=hv.form
 obtain⟨N,hN⟩ : ∃N,N=xs.length:=⟨_,rfl⟩
 have hN0:0<N:=by rw [hN];exact List.length_pos_iff.2 hne
 have hN1:N≤maxLen:=by omega
 unfold maxLen at hN1
 have HV:=Lib.hid hv
 rw [←hN]at HV
 rw [←hN]
 obtain⟨b,o,rfl⟩:=hp (by decide) (by omega)
 have h00:0<xs.length:=List.length_pos_iff.2 hne
 have h0:xs.take 1 = [xs[0]]:=by rw [List.take_one];simp [List.head?_eq_getElem?]
 have hpk:pickMin (xs.take 1)=xs[0]:=by rw [h0];rfl
 obtain⟨c0,c1,c2,_,_⟩:=val_cells HV.out 0 h00
 simp only [Nat.zero_mul,Nat.add_zero]at c0 c1 c2
 rw [←hpk]at c0 c1 c2
 have HN:=Lib.hid hN
 have HNE:=Lib.hid hne
 have e0:=cell_lt c0
 clear hv hne hp hc1 hc2 hN h0 hpk
 have hlt1 : ¬(N:Int)<1:=by omega
 have hz1:decide ((N:Int)<1)=false:=by simp;omega
 go_enter Tryz.func184,Tryz.ntmps184
 go_wp2_with fail
 obtain⟨Q,hQ⟩ : ∃q,q=w.heap.size:=⟨_,rfl⟩
 have HQ:=Lib.hid hQ
 rw [←hQ]
 go_loopg [6] (N - 1) (fun gk vi wr=> ∃k:Nat,k+1≤N∧gk=N - 1 - k∧vi = .int .i64 ((k:Int)+1)∧Hid (wr.cell? ⟨Q+1,0,none⟩=some (.int .i64 (pickMin (xs.take (k+1))).kind)∧wr.cell? ⟨Q+1,1,none⟩=some (.int .i64 (pickMin (xs.take (k+1))).n)∧wr.cell? ⟨Q+1,2,none⟩=some (.string (pickMin (xs.take (k+1))).s))∧Hid (FreeN wr (Q+1) 3)∧Hid (FreeN wr Q 3)∧Hid (Ext w wr))
 case atStart =>
  refine⟨0,by omega,rfl,rfl,⟨?_,?_,?_⟩,fun j hj=> ?_,fun j hj=> ?_,((Ext.refl w).alloc _).alloc _⟩
  ·rw [hQ];go_simp
  ·rw [hQ];go_simp
  ·rw [hQ];go_simp
  ·rw [hQ]
   match j,hj with
   |0,_=>exact⟨⟨.int .i64 (pickMin (xs.take 1)).kind,by go_simp⟩,by go_simp⟩
   |1,_=>exact⟨⟨.int .i64 (pickMin (xs.take 1)).n,by go_simp⟩,by go_simp⟩
   |2,_=>exact⟨⟨.string (pickMin (xs.take 1)).s,by go_simp⟩,by go_simp⟩
  ·rw [hQ]
   match j,hj with
   |0,_=>exact⟨⟨.int .i64 0,by go_simp⟩,by go_simp⟩
   |1,_=>exact⟨⟨.int .i64 0,by go_simp⟩,by go_simp⟩
   |2,_=>exact⟨⟨.string ⟨#[]⟩,by go_simp⟩,by go_simp⟩
 case round =>
  clear hQ c0 c1 c2 e0
  obtain⟨k,hk,rfl,rfl,MM,FM,FR,HX⟩:=hrel
  by_cases hlt:k+1<N
  ·have hkl:k+1<xs.length:=by have:=HN.out;omega
   have hd:decide ((k:Int)+1<(N:Int))=true:=by simp;omega
   obtain⟨c0,c1,c2,rr0,rr1⟩:=val_cells HV.out (k+1) hkl
   clear rr0 rr1
   replace c0:=HX.out.at c0
   replace c1:=HX.out.at c1
   replace c2:=HX.out.at c2
   have hst:pickMin (xs.take (k+1+1))=if (fun y m=>cmpVal y m<0) xs[k+1] (pickMin (xs.take (k+1)))then xs[k+1]else pickMin (xs.take (k+1)):=by
    rw [List.take_succ_eq_append_getElem hkl]
    exact pickMin_snoc (fun h=>by have h5:=congrArg List.length h;rw [List.length_take,List.length_nil]at h5;omega) _
   generalize xs[k+1]=y at c0 c1 c2 hst
   obtain⟨m,hm⟩ : ∃m,m=pickMin (xs.take (k+1)):=⟨_,rfl⟩
   rw [←hm]at MM hst
   obtain⟨yk,yn,ys⟩:=y
   obtain⟨mk,mn,ms⟩:=m
   dsimp only at c0 c1 c2 hst
   have m0:=MM.out.1
   have m1:=MM.out.2.1
   have m2:=MM.out.2.2
   dsimp only at m0 m1 m2
   have e1:=cell_lt c0
   have e2:=cell_lt m0
   have HST:=Lib.hid hst
   have hj1:k+1<N:=hlt
   have hj2:(k:Int)+1<(N:Int):=by omega
   have hj3:0≤(k:Int)+1:=by omega
   have X0:=Lib.hid (show Ext wr wr.drew from (Ext.refl wr).drew)
   have hw4:IntKind.i64.wrap ((k:Int)+1+1)=(k:Int)+1+1:=by rw [IntKind.wrap_i64];omega
   clear hst hkl hm
   go_wp2_with fail
   go_region_law (first
    |((with_reducible refine key_op 26 ?_);go_simp;refine(compare_val ⟨yk,yn,ys⟩ ⟨mk,mn,ms⟩ _).mono ?_;rintro e w5 ⟨rfl,x5⟩;have X5:Hid (Ext wr w5):=Lib.hid (X0.out.trans x5.ext)))
   all_goals
    generalize hq:cmpVal ⟨yk,yn,ys⟩ ⟨mk,mn,ms⟩=q
    have HQQ:=Lib.hid hq
    clear hq
    replace c0:=X5.out.at c0
    replace c1:=X5.out.at c1
    replace c2:=X5.out.at c2
    obtain⟨⟨⟨z0,f0⟩,g0⟩,⟨⟨z1,f1⟩,g1⟩,⟨⟨z2,f2⟩,g2⟩⟩:=And.intro (FM.out.ext X5.out 0 (by omega)) (And.intro (FM.out.ext X5.out 1 (by omega)) (FM.out.ext X5.out 2 (by omega)))
    have e5:=cell_lt f0
    clear m0 m1 m2
    by_cases hq0:q<0
    ·have hqb:decide (q<0)=true:=by simp [hq0]
     have HQ0:=Lib.hid hq0
     clear hq0
     go_wp2_with fail
     have CH:Chg (fun x=>x=Q+1) wr (((w5.setCell ⟨Q+1,0,none⟩ (.int .i64 yk)).setCell ⟨Q+1,1,none⟩ (.int .i64 yn)).setCell ⟨Q+1,2,none⟩ (.string ys)):=(((X5.out.chg (fun x=>x=Q+1)).setCell (p:=⟨Q+1,0,none⟩) (.inl rfl) _).setCell (p:=⟨Q+1,1,none⟩) (.inl rfl) _).setCell (p:=⟨Q+1,2,none⟩) (.inl rfl) _
     have X7:Ext w (((w5.setCell ⟨Q+1,0,none⟩ (.int .i64 yk)).setCell ⟨Q+1,1,none⟩ (.int .i64 yn)).setCell ⟨Q+1,2,none⟩ (.string ys)):=Below.setCell (Below.setCell (Below.setCell (HX.out.trans X5.out) (by have:=HQ.out;show w.heap.size≤Q+1;omega) _) (by have:=HQ.out;show w.heap.size≤Q+1;omega) _) (by have:=HQ.out;show w.heap.size≤Q+1;omega) _
     have q0:(((w5.setCell ⟨Q+1,0,none⟩ (.int .i64 yk)).setCell ⟨Q+1,1,none⟩ (.int .i64 yn)).setCell ⟨Q+1,2,none⟩ (.string ys)).cell? ⟨Q+1,0,none⟩=some (.int .i64 yk):=by go_simp
     have q1:(((w5.setCell ⟨Q+1,0,none⟩ (.int .i64 yk)).setCell ⟨Q+1,1,none⟩ (.int .i64 yn)).setCell ⟨Q+1,2,none⟩ (.string ys)).cell? ⟨Q+1,1,none⟩=some (.int .i64 yn):=by go_simp
     have q2:(((w5.setCell ⟨Q+1,0,none⟩ (.int .i64 yk)).setCell ⟨Q+1,1,none⟩ (.int .i64 yn)).setCell ⟨Q+1,2,none⟩ (.string ys)).cell? ⟨Q+1,2,none⟩=some (.string ys):=by go_simp
     have FM7:=Lib.hid ((((FM.out.ext X5.out).set 0 (.int .i64 yk)).set 1 (.int .i64 yn)).set 2 (.string ys))
     generalize (((w5.setCell ⟨Q+1,0,none⟩ (.int .i64 yk)).setCell ⟨Q+1,1,none⟩ (.int .i64 yn)).setCell ⟨Q+1,2,none⟩ (.string ys))=w7 at CH X7 q0 q1 q2 FM7 ⊢
     have FR7:=Lib.hid (FR.out.chg CH (by omega))
     have HX7:=Lib.hid X7
     have MM7:=Lib.hid (And.intro q0 (And.intro q1 q2))
     clear CH X7 q0 q1 q2 f0 g0 f1 g1 f2 g2 c0 c1 c2
     go_wp2_with fail
     go_roundg (N - 1 - (k+1))
     case measure=>omega
     case rel =>
       refine⟨k+1,by omega,rfl,by go_num,?_,FM7.out,FR7.out,HX7.out⟩
       rw [HST.out,if_pos (by show cmpVal ⟨yk,yn,ys⟩ ⟨mk,mn,ms⟩<0;rw [HQQ.out];have h5:=HQ0.out;omega)]
       exact MM7.out
    ·have hqb:decide (q<0)=false:=by simp [hq0]
     have HQ0:=Lib.hid hq0
     clear hq0
     go_wp2_with fail
     go_roundg (N - 1 - (k+1))
     case measure=>omega
     case rel =>
       refine⟨k+1,by omega,rfl,by go_num,?_,FM.out.ext X5.out,FR.out.ext X5.out,HX.out.trans X5.out⟩
       rw [HST.out,if_neg (by show ¬cmpVal ⟨yk,yn,ys⟩ ⟨mk,mn,ms⟩<0;rw [HQQ.out];have h5:=HQ0.out;omega)]
       exact⟨X5.out.at MM.out.1,X5.out.at MM.out.2.1,X5.out.at MM.out.2.2⟩
  ·have hkN:k+1=N:=by omega
   have hd : ¬(k:Int)+1<(N:Int):=by omega
   have hxt:xs.take (k+1)=xs:=by rw [hkN,HN.out];exact List.take_length
   rw [hxt]at MM
   obtain⟨m,hm⟩ : ∃m,m=pickMin xs:=⟨_,rfl⟩
   rw [←hm]at MM
   have HM:=Lib.hid hm
   obtain⟨mk,mn,ms⟩:=m
   have m0:=MM.out.1
   have m1:=MM.out.2.1
   have m2:=MM.out.2.2
   dsimp only at m0 m1 m2
   obtain⟨⟨⟨z0,f0⟩,g0⟩,⟨⟨z1,f1⟩,g1⟩,⟨⟨z2,f2⟩,g2⟩⟩:=And.intro (FR.out 0 (by omega)) (And.intro (FR.out 1 (by omega)) (FR.out 2 (by omega)))
   have e1:=cell_lt m0
   have e5:=cell_lt f0
   clear hxt hm hkN
   go_wp2_with fail
   have XF : ∀u v z,Ext w (((wr.setCell ⟨Q,0,none⟩ u).setCell ⟨Q,1,none⟩ v).setCell ⟨Q,2,none⟩ z):=fun u v z=>Below.setCell (Below.setCell (Below.setCell HX.out (by have:=HQ.out;show w.heap.size≤Q;omega) _) (by have:=HQ.out;show w.heap.size≤Q;omega) _) (by have:=HQ.out;show w.heap.size≤Q;omega) _
   exact bodyPost_ret (v:= .agg #[.int .i64 mk,.int .i64 mn,.string ms]) (by simp [results,Tryz.results184,go_sem,f0,f1,f2]) rfl ⟨by rw [←HM.out];first | done | rfl,XF _ _ _⟩
theorem pickMax_snoc {xs:List Val} (h:xs≠ []) (y:Val):pickMax (xs ++ [y])=if 0<cmpVal y (pickMax xs)then y else pickMax xs:=by
 cases xs with
 |nil=>exact absurd rfl h
 |cons x xs =>
  show (xs ++ [y]).foldl _ x=_
  rw [List.foldl_append]
  rfl
set_option maxRecDepth 100000 in
set_option maxHeartbeats 4000000 in
theorem pickMax_any (v:Value) (xs:List Val) (w:World) (hv:SliceOf Rep.val w.cell? v xs) (hne:xs≠ []):Calls Tryz.prog 185 #[v,.func (.func 120) #[] #[]] w fun e w'=>e = .returned (valV (pickMax xs))∧Ext w w':=by
 obtain⟨p,cap,rfl,hc1,hc2,hp⟩:=hv.form
 obtain⟨N,hN⟩ : ∃N,N=xs.length:=⟨_,rfl⟩
 have hN0:0<N:=by rw [hN];exact List.length_pos_iff.2 hne
 have hN1:N≤maxLen:=by omega
 unfold maxLen at hN1
 have HV:=Lib.hid hv
 rw [←hN]at HV
 rw [←hN]
 obtain⟨b,o,rfl⟩:=hp (by decide) (by omega)
 have h00:0<xs.length:=List.length_pos_iff.2 hne
 have h0:xs.take 1 = [xs[0]]:=by rw [List.take_one];simp [List.head?_eq_getElem?]
 have hpk:pickMax (xs.take 1)=xs[0]:=by rw [h0];rfl
 obtain⟨c0,c1,c2,_,_⟩:=val_cells HV.out 0 h00
 simp only [Nat.zero_mul,Nat.add_zero]at c0 c1 c2
 rw [←hpk]at c0 c1 c2
 have HN:=Lib.hid hN
 have HNE:=Lib.hid hne
 have e0:=cell_lt c0
 clear hv hne hp hc1 hc2 hN h0 hpk
 have hlt1 : ¬(N:Int)<1:=by omega
 have hz1:decide ((N:Int)<1)=false:=by simp;omega
 go_enter Tryz.func185,Tryz.ntmps185
 go_wp2_with fail
 obtain⟨Q,hQ⟩ : ∃q,q=w.heap.size:=⟨_,rfl⟩
 have HQ:=Lib.hid hQ
 rw [←hQ]
 go_loopg [6] (N - 1) (fun gk vi wr=> ∃k:Nat,k+1≤N∧gk=N - 1 - k∧vi = .int .i64 ((k:Int)+1)∧Hid (wr.cell? ⟨Q+1,0,none⟩=some (.int .i64 (pickMax (xs.take (k+1))).kind)∧wr.cell? ⟨Q+1,1,none⟩=some (.int .i64 (pickMax (xs.take (k+1))).n)∧wr.cell? ⟨Q+1,2,none⟩=some (.string (pickMax (xs.take (k+1))).s))∧Hid (FreeN wr (Q+1) 3)∧Hid (FreeN wr Q 3)∧Hid (Ext w wr))
 case atStart =>
  refine⟨0,by omega,rfl,rfl,⟨?_,?_,?_⟩,fun j hj=> ?_,fun j hj=> ?_,((Ext.refl w).alloc _).alloc _⟩
  ·rw [hQ];go_simp
  ·rw [hQ];go_simp
  ·rw [hQ];go_simp
  ·rw [hQ]
   match j,hj with
   |0,_=>exact⟨⟨.int .i64 (pickMax (xs.take 1)).kind,by go_simp⟩,by go_simp⟩
   |1,_=>exact⟨⟨.int .i64 (pickMax (xs.take 1)).n,by go_simp⟩,by go_simp⟩
   |2,_=>exact⟨⟨.string (pickMax (xs.take 1)).s,by go_simp⟩,by go_simp⟩
  ·rw [hQ]
   match j,hj with
   |0,_=>exact⟨⟨.int .i64 0,by go_simp⟩,by go_simp⟩
   |1,_=>exact⟨⟨.int .i64 0,by go_simp⟩,by go_simp⟩
   |2,_=>exact⟨⟨.string ⟨#[]⟩,by go_simp⟩,by go_simp⟩
 case round =>
  clear hQ c0 c1 c2 e0
  obtain⟨k,hk,rfl,rfl,MM,FM,FR,HX⟩:=hrel
  by_cases hlt:k+1<N
  ·have hkl:k+1<xs.length:=by have:=HN.out;omega
   have hd:decide ((k:Int)+1<(N:Int))=true:=by simp;omega
   obtain⟨c0,c1,c2,rr0,rr1⟩:=val_cells HV.out (k+1) hkl
   clear rr0 rr1
   replace c0:=HX.out.at c0
   replace c1:=HX.out.at c1
   replace c2:=HX.out.at c2
   have hst:pickMax (xs.take (k+1+1))=if (fun y m=>0<cmpVal y m) xs[k+1] (pickMax (xs.take (k+1)))then xs[k+1]else pickMax (xs.take (k+1)):=by
    rw [List.take_succ_eq_append_getElem hkl]
    exact pickMax_snoc (fun h=>by have h5:=congrArg List.length h;rw [List.length_take,List.length_nil]at h5;omega) _
   generalize xs[k+1]=y at c0 c1 c2 hst
   obtain⟨m,hm⟩ : ∃m,m=pickMax (xs.take (k+1)):=⟨_,rfl⟩
   rw [←hm]at MM hst
   obtain⟨yk,yn,ys⟩:=y
   obtain⟨mk,mn,ms⟩:=m
   dsimp only at c0 c1 c2 hst
   have m0:=MM.out.1
   have m1:=MM.out.2.1
   have m2:=MM.out.2.2
   dsimp only at m0 m1 m2
   have e1:=cell_lt c0
   have e2:=cell_lt m0
   have HST:=Lib.hid hst
   have hj1:k+1<N:=hlt
   have hj2:(k:Int)+1<(N:Int):=by omega
   have hj3:0≤(k:Int)+1:=by omega
   have X0:=Lib.hid (show Ext wr wr.drew from (Ext.refl wr).drew)
   have hw4:IntKind.i64.wrap ((k:Int)+1+1)=(k:Int)+1+1:=by rw [IntKind.wrap_i64];omega
   clear hst hkl hm
   go_wp2_with fail
   go_region_law (first
    |((with_reducible refine key_op 26 ?_);go_simp;refine(compare_val ⟨yk,yn,ys⟩ ⟨mk,mn,ms⟩ _).mono ?_;rintro e w5 ⟨rfl,x5⟩;have X5:Hid (Ext wr w5):=Lib.hid (X0.out.trans x5.ext)))
   all_goals
    generalize hq:cmpVal ⟨yk,yn,ys⟩ ⟨mk,mn,ms⟩=q
    have HQQ:=Lib.hid hq
    clear hq
    replace c0:=X5.out.at c0
    replace c1:=X5.out.at c1
    replace c2:=X5.out.at c2
    obtain⟨⟨⟨z0,f0⟩,g0⟩,⟨⟨z1,f1⟩,g1⟩,⟨⟨z2,f2⟩,g2⟩⟩:=And.intro (FM.out.ext X5.out 0 (by omega)) (And.intro (FM.out.ext X5.out 1 (by omega)) (FM.out.ext X5.out 2 (by omega)))
    have e5:=cell_lt f0
    clear m0 m1 m2
    by_cases hq0:0<q
    ·have hqb:decide (0<q)=true:=by simp [hq0]
     have HQ0:=Lib.hid hq0
     clear hq0
     go_wp2_with fail
     have CH:Chg (fun x=>x=Q+1) wr (((w5.setCell ⟨Q+1,0,none⟩ (.int .i64 yk)).setCell ⟨Q+1,1,none⟩ (.int .i64 yn)).setCell ⟨Q+1,2,none⟩ (.string ys)):=(((X5.out.chg (fun x=>x=Q+1)).setCell (p:=⟨Q+1,0,none⟩) (.inl rfl) _).setCell (p:=⟨Q+1,1,none⟩) (.inl rfl) _).setCell (p:=⟨Q+1,2,none⟩) (.inl rfl) _
     have X7:Ext w (((w5.setCell ⟨Q+1,0,none⟩ (.int .i64 yk)).setCell ⟨Q+1,1,none⟩ (.int .i64 yn)).setCell ⟨Q+1,2,none⟩ (.string ys)):=Below.setCell (Below.setCell (Below.setCell (HX.out.trans X5.out) (by have:=HQ.out;show w.heap.size≤Q+1;omega) _) (by have:=HQ.out;show w.heap.size≤Q+1;omega) _) (by have:=HQ.out;show w.heap.size≤Q+1;omega) _
     have q0:(((w5.setCell ⟨Q+1,0,none⟩ (.int .i64 yk)).setCell ⟨Q+1,1,none⟩ (.int .i64 yn)).setCell ⟨Q+1,2,none⟩ (.string ys)).cell? ⟨Q+1,0,none⟩=some (.int .i64 yk):=by go_simp
     have q1:(((w5.setCell ⟨Q+1,0,none⟩ (.int .i64 yk)).setCell ⟨Q+1,1,none⟩ (.int .i64 yn)).setCell ⟨Q+1,2,none⟩ (.string ys)).cell? ⟨Q+1,1,none⟩=some (.int .i64 yn):=by go_simp
     have q2:(((w5.setCell ⟨Q+1,0,none⟩ (.int .i64 yk)).setCell ⟨Q+1,1,none⟩ (.int .i64 yn)).setCell ⟨Q+1,2,none⟩ (.string ys)).cell? ⟨Q+1,2,none⟩=some (.string ys):=by go_simp
     have FM7:=Lib.hid ((((FM.out.ext X5.out).set 0 (.int .i64 yk)).set 1 (.int .i64 yn)).set 2 (.string ys))
     generalize (((w5.setCell ⟨Q+1,0,none⟩ (.int .i64 yk)).setCell ⟨Q+1,1,none⟩ (.int .i64 yn)).setCell ⟨Q+1,2,none⟩ (.string ys))=w7 at CH X7 q0 q1 q2 FM7 ⊢
     have FR7:=Lib.hid (FR.out.chg CH (by omega))
     have HX7:=Lib.hid X7
     have MM7:=Lib.hid (And.intro q0 (And.intro q1 q2))
     clear CH X7 q0 q1 q2 f0 g0 f1 g1 f2 g2 c0 c1 c2
     go_wp2_with fail
     go_roundg (N - 1 - (k+1))
     case measure=>omega
     case rel =>
       refine⟨k+1,by omega,rfl,by go_num,?_,FM7.out,FR7.out,HX7.out⟩
       rw [HST.out,if_pos (by show 0<cmpVal ⟨yk,yn,ys⟩ ⟨mk,mn,ms⟩;rw [HQQ.out];have h5:=HQ0.out;omega)]
       exact MM7.out
    ·have hqb:decide (0<q)=false:=by simp [hq0]
     have HQ0:=Lib.hid hq0
     clear hq0
     go_wp2_with fail
     go_roundg (N - 1 - (k+1))
     case measure=>omega
     case rel =>
       refine⟨k+1,by omega,rfl,by go_num,?_,FM.out.ext X5.out,FR.out.ext X5.out,HX.out.trans X5.out⟩
       rw [HST.out,if_neg (by show ¬ 0<cmpVal ⟨yk,yn,ys⟩ ⟨mk,mn,ms⟩;rw [HQQ.out];have h5:=HQ0.out;omega)]
       exact⟨X5.out.at MM.out.1,X5.out.at MM.out.2.1,X5.out.at MM.out.2.2⟩
  ·have hkN:k+1=N:=by omega
   have hd : ¬(k:Int)+1<(N:Int):=by omega
   have hxt:xs.take (k+1)=xs:=by rw [hkN,HN.out];exact List.take_length
   rw [hxt]at MM
   obtain⟨m,hm⟩ : ∃m,m=pickMax xs:=⟨_,rfl⟩
   rw [←hm]at MM
   have HM:=Lib.hid hm
   obtain⟨mk,mn,ms⟩:=m
   have m0:=MM.out.1
   have m1:=MM.out.2.1
   have m2:=MM.out.2.2
   dsimp only at m0 m1 m2
   obtain⟨⟨⟨z0,f0⟩,g0⟩,⟨⟨z1,f1⟩,g1⟩,⟨⟨z2,f2⟩,g2⟩⟩:=And.intro (FR.out 0 (by omega)) (And.intro (FR.out 1 (by omega)) (FR.out 2 (by omega)))
   have e1:=cell_lt m0
   have e5:=cell_lt f0
   clear hxt hm hkN
   go_wp2_with fail
   have XF : ∀u v z,Ext w (((wr.setCell ⟨Q,0,none⟩ u).setCell ⟨Q,1,none⟩ v).setCell ⟨Q,2,none⟩ z):=fun u v z=>Below.setCell (Below.setCell (Below.setCell HX.out (by have:=HQ.out;show w.heap.size≤Q;omega) _) (by have:=HQ.out;show w.heap.size≤Q;omega) _) (by have:=HQ.out;show w.heap.size≤Q;omega) _
   exact bodyPost_ret (v:= .agg #[.int .i64 mk,.int .i64 mn,.string ms]) (by simp [results,Tryz.results185,go_sem,f0,f1,f2]) rfl ⟨by rw [←HM.out];first | done | rfl,XF _ _ _⟩
def colOf (es:List ExprI) (arg:Int):Int:=(es.map ExprI.col).getD arg.toNat 0
end Go.Proofs.YtombmdaohcjokaaGreatDoor
namespace Go.Proofs.YtombmdaohcjokaaGreatDoor
open Go.RowKit
end Go.Proofs.YtombmdaohcjokaaGreatDoor
namespace Go.Proofs.YtombmdaohcjokaaGreatDoor
open Go.RowKit
def nnV (xs:List Val):List Val:=xs.filter fun v=>decide (v.kind≠0)
theorem pickMin_mem {xs:List Val} (h:xs≠ []):pickMin xs∈xs:=(pickMin_law h).1
def bestMin (xs:List Val):Val:=if nnV xs = []then nV else pickMin (nnV xs)
def bestMax (xs:List Val):Val:=if nnV xs = []then nV else pickMax (nnV xs)
def aggR (kind:Int) (xs:List Val):Val:=if kind=1 then intVal xs.length else if kind=2 then sumV xs else if kind=3 then bestMin xs else if kind=4 then bestMax xs else nV
end Go.Proofs.YtombmdaohcjokaaGreatDoor
namespace Go.Proofs.YtombmdaohcjokaaGreatDoor
open Go.RowKit
def doneL (a b:List Int) (k:Nat):List Int:=if k=0 then []else if k=1 then a else a++b
end Go.Proofs.YtombmdaohcjokaaGreatDoor
