/- joined texts of a proof: StabX, PairA, HeapQ -/
import Derived.Test.YtkddkbpoefidpaaGreatDoorKI04
import Derived.Test.YtkddkbpoefidpaaGreatDoorKI13
import Derived.Shelf.SlSortCmp.PdqK
import Derived.Test.YtkddkbpoefidpaaGreatDoorKI07
import Derived.Test.YtkddkbpoefidpaaGreatDoorKI02
import Derived.OneCell
import Derived.Test.YtkddkbpoefidpaaGreatDoorKI06
import Derived.Test.YtkddkbpoefidpaaGreatDoorKI01
namespace Go.Proofs.YtkddkbpoefidpaaGreatDoor
open Go.RowKit Go.Shelf Go.Sort
def sideI (b:Bool):Int:=if b then 1 else 0
def evEnc (x:Ev):List Value:= [.int .i64 x.from_,.int .i64 (sideI x.side),.int .i64 x.idx]
def okS (x:Ev):Prop:=x.idx≤1048576∧ -9223372036854775808≤x.from_∧x.from_≤9223372036854775807
def Rep.ev:Rep Ev where
 size:=3
 holds _ cs x:=cs=evEnc x∧okS x
 len:=by rintro w cs x ⟨rfl,_⟩;rfl
 ext:=by rintro w w' cs x h _;exact h
 one:=by rintro w cs x ⟨rfl,_⟩;simp [evEnc,Value.oneCell']
theorem flat_ev:Rep.ev.flat:=fun _ _ _ _ h=>h
theorem ev_len (x:Ev):(evEnc x).length=3:=rfl
theorem ev_one (x:Ev) : ∀v∈evEnc x,v.oneCell'=true:=by simp [evEnc,Value.oneCell']
theorem ev_iff : ∀h cs x,Rep.ev.holds h cs x↔cs=evEnc x∧okS x:=fun _ _ _=>Iff.rfl
theorem ev_cell {w:World} {g:Nat} {d:Array Ev} (h:HoldsK evEnc 3 w g 0 d) (i:Nat) (hi:i<d.size) :
  w.cell? ⟨g,i*3,none⟩=some (.int .i64 d[i]!.from_)∧w.cell? ⟨g,i*3+1,none⟩=some (.int .i64 (sideI d[i]!.side))∧w.cell? ⟨g,i*3+2,none⟩=some (.int .i64 d[i]!.idx):=by
 have g0:=(h (i*3) (by simp;omega)).1
 have g1:=(h (i*3+1) (by simp;omega)).1
 have g2:=(h (i*3+2) (by simp;omega)).1
 rw [Nat.zero_add,get_flatK _ _ _ _ (by omega)]at g0 g1 g2
 rw [show i*3 / 3=i by omega,show i*3 % 3=0 by omega]at g0
 rw [show (i*3+1) / 3=i by omega,show (i*3+1) % 3=1 by omega]at g1
 rw [show (i*3+2) / 3=i by omega,show (i*3+2) % 3=2 by omega]at g2
 exact⟨g0,g1,g2⟩
theorem ev_free {w:World} {g:Nat} {d:Array Ev} (h:HoldsK evEnc 3 w g 0 d) (i:Nat) (hi:i<d.size) :
  w.frozen? ⟨g,i*3,none⟩=false∧w.frozen? ⟨g,i*3+1,none⟩=false∧w.frozen? ⟨g,i*3+2,none⟩=false:=by
 have g0:=(h (i*3) (by simp;omega)).2
 have g1:=(h (i*3+1) (by simp;omega)).2
 have g2:=(h (i*3+2) (by simp;omega)).2
 rw [Nat.zero_add]at g0 g1 g2
 exact⟨g0,g1,g2⟩
def cmpEv (x y:Ev):Int:=cmpI x.from_ y.from_
theorem swo_ev:SWO (ltOf cmpEv):=swo_pull ord_int.swo fun x:Ev=>x.from_
theorem ev_agg : ∀w,(isAgg 246).run Tryz.prog w = .ok true w:=fun w=>by kernel_rfl
theorem ev_size : ∀w,(Go.sizeOf 246).run Tryz.prog w = .ok 3 w:=fun w=>by kernel_rfl
theorem drew_set (w:World) (p:Addr) (v:Value):w.drew.setCell p v=(w.setCell p v).drew:=rfl
theorem swk_exch (blk N:Nat) (d0 dk:Array Ev) (w0 wr:World) (R:RowK evEnc 3 w0 blk 0 d0) (hd0:d0.size=N) (hdk:dk.size=N) (S:SWK evEnc 3 w0 blk 0 dk wr) (x y:Nat) (hx:x<N) (hy:y<N) :
  ∃f1 s1 i1 f2 s2 i2:Int,wr.cell? ⟨blk,x*3,none⟩=some (.int .i64 f1)∧wr.cell? ⟨blk,x*3+1,none⟩=some (.int .i64 s1)∧wr.cell? ⟨blk,x*3+2,none⟩=some (.int .i64 i1) ∧
   wr.cell? ⟨blk,y*3,none⟩=some (.int .i64 f2)∧wr.cell? ⟨blk,y*3+1,none⟩=some (.int .i64 s2)∧wr.cell? ⟨blk,y*3+2,none⟩=some (.int .i64 i2) ∧
   wr.frozen? ⟨blk,x*3,none⟩=false∧wr.frozen? ⟨blk,x*3+1,none⟩=false∧wr.frozen? ⟨blk,x*3+2,none⟩=false∧wr.frozen? ⟨blk,y*3,none⟩=false∧wr.frozen? ⟨blk,y*3+1,none⟩=false∧wr.frozen? ⟨blk,y*3+2,none⟩=false ∧
   Hid (SWK evEnc 3 w0 blk 0 (swp dk x y) ((((((wr.setCell ⟨blk,x*3,none⟩ (.int .i64 f2)).setCell ⟨blk,x*3+1,none⟩ (.int .i64 s2)).setCell ⟨blk,x*3+2,none⟩ (.int .i64 i2)).setCell ⟨blk,y*3,none⟩ (.int .i64 f1)).setCell ⟨blk,y*3+1,none⟩ (.int .i64 s1)).setCell ⟨blk,y*3+2,none⟩ (.int .i64 i1)).drew):=by
 have hH:=S.holds R.hblk R.hH (by omega)
 obtain⟨a1,a2,a3⟩:=ev_cell hH x (by omega)
 obtain⟨b1,b2,b3⟩:=ev_cell hH y (by omega)
 obtain⟨p1,p2,p3⟩:=ev_free hH x (by omega)
 obtain⟨r1,r2,r3⟩:=ev_free hH y (by omega)
 refine⟨_,_,_,_,_,_,a1,a2,a3,b1,b2,b3,p1,p2,p3,r1,r2,r3,?_⟩
 have h:=S.swapped R x y (by omega) (by omega)
 simp only [evEnc,World.setCells,Nat.zero_add,Nat.add_assoc,Nat.reduceAdd,drew_set]at h
 exact h
set_option maxRecDepth 100000 in
set_option maxHeartbeats 4000000 in
theorem swapRange_ev (gq blk cap a b n N:Nat) (d0 d:Array Ev) (w0 w:World) (R:RowK evEnc 3 w0 blk 0 d0) (hd0:d0.size=N) (hd:d.size=N) (S:SWK evEnc 3 w0 blk 0 d w) (hab:a+n≤b) (hb:b+n≤N) (hsz:N≤1048576) :
  Calls Tryz.prog 333 #[.slice (some ⟨blk,0,none⟩) N cap,.int .i64 a,.int .i64 b,.int .i64 n,.func (.func gq) #[] #[]] w fun e w'=>e = .returned (.tuple #[])∧ ∃d',SwapOf d d' a b n∧PermIn a (b+n) d d'∧SWK evEnc 3 w0 blk 0 d' w':=by
 have mixed:=mixedOrd
 have S0:=Lib.hid S
 have W0:=Lib.hid (SwapOf.zero d a b)
 have P0:=Lib.hid (permIn_refl d a (b+n))
 clear S
 go_enter Tryz.func333,Tryz.ntmps333
 go_wp2_with fail
 go_loopg [10] n (fun gk vi wr=> ∃(k:Nat) (dk:Array Ev),gk=n - k∧vi = .int .i64 k∧k≤n∧dk.size=N∧Hid (SwapOf d dk a b k)∧Hid (PermIn a (b+n) d dk)∧Hid (SWK evEnc 3 w0 blk 0 dk wr))
 case atStart=>exact⟨0,d,rfl,rfl,by omega,hd,W0,P0,S0⟩
 case round =>
  obtain⟨k,dk,rfl,rfl,hk,hdk,W1,P1,S1⟩:=hrel
  clear S0 W0 P0
  by_cases hkn:k<n
  ·have hkz:(k:Int)<(n:Int):=by omega
   obtain⟨x,hx⟩ : ∃x,x=a+k:=⟨_,rfl⟩
   obtain⟨y,hy⟩ : ∃y,y=b+k:=⟨_,rfl⟩
   have e1:(a:Int)+(k:Int)=(x:Int):=by omega
   have e2:(b:Int)+(k:Int)=(y:Int):=by omega
   have hxN:x<N:=by omega
   have hyN:y<N:=by omega
   have hxz:(x:Int)<(N:Int):=by omega
   have hyz:(y:Int)<(N:Int):=by omega
   have hne:x≠y:=by omega
   have hrx:IntKind.i64.wrap (x:Int)=(x:Int):=by rw [IntKind.wrap_i64];omega
   have hry:IntKind.i64.wrap (y:Int)=(y:Int):=by rw [IntKind.wrap_i64];omega
   obtain⟨f1,s1,i1,f2,s2,i2,c1,c2,c3,c4,c5,c6,r1,r2,r3,r4,r5,r6,S2⟩:=swk_exch blk N d0 dk w0 wr R hd0 hdk S1.out x y hxN hyN
   have HX:=Lib.hid hx
   have HY:=Lib.hid hy
   clear S1 hx hy
   have q1 : ¬x*3=y*3:=by omega
   have q2 : ¬x*3+1=y*3+1:=by omega
   have q3 : ¬x*3+2=y*3+2:=by omega
   have q4 : ¬x*3=y*3+1:=by omega
   have q5 : ¬x*3=y*3+2:=by omega
   have q6 : ¬x*3+1=y*3:=by omega
   have q7 : ¬x*3+1=y*3+2:=by omega
   have q8 : ¬x*3+2=y*3:=by omega
   have q9 : ¬x*3+2=y*3+1:=by omega
   go_wp2_with fail
   go_big_region_o
   all_goals go_wp2_with fail
   all_goals go_roundg (n - (k+1))
   all_goals first
    |(case measure=>omega)
    |(case rel =>
     refine⟨k+1,swp dk x y,rfl,by simp,by omega,by rw [size_swp];exact hdk,?_,?_,S2.out⟩
     ·have:=SwapOf.step W1.out (by omega) (by omega)
      rw [←HX.out,←HY.out]at this
      exact this
     ·exact permIn_trans _ _ _ _ _ P1.out (swp_permIn _ _ _ _ _ (by have:=HX.out;omega) (by have:=HX.out;omega) (by have:=HY.out;omega) (by have:=HY.out;omega) (by omega)))
  ·have hkz : ¬(k:Int)<(n:Int):=by omega
   have hke:k=n:=by omega
   subst hke
   go_wp2_with fail
   go_end0
   exact⟨rfl,dk,W1.out,P1.out,S1.out⟩
end Go.Proofs.YtkddkbpoefidpaaGreatDoor
namespace Go.Proofs.YtkddkbpoefidpaaGreatDoor
open Go.RowKit Go.Shelf Go.Sort
set_option maxRecDepth 100000 in
set_option maxHeartbeats 4000000 in
theorem rotate_ev (gq blk cap a m b N:Nat) (d0 d:Array Ev) (w0 w:World) (R:RowK evEnc 3 w0 blk 0 d0) (hd0:d0.size=N) (hd:d.size=N) (S:SWK evEnc 3 w0 blk 0 d w) (ham:a<m) (hmb:m<b) (hb:b≤N) (hsz:N≤1048576) :
  Calls Tryz.prog 323 #[.slice (some ⟨blk,0,none⟩) N cap,.int .i64 a,.int .i64 m,.int .i64 b,.func (.func gq) #[] #[]] w fun e w'=>e = .returned (.tuple #[])∧ ∃d',RotOf d d' a (m - a) (b - m)∧PermIn a b d d'∧SWK evEnc 3 w0 blk 0 d' w':=by
 have S0:=Lib.hid S
 have P0:=Lib.hid (permIn_refl d a b)
 obtain⟨i0,hi0⟩ : ∃i0,i0=m - a:=⟨_,rfl⟩
 obtain⟨j0,hj0⟩ : ∃j0,j0=b - m:=⟨_,rfl⟩
 have Z0:=Lib.hid (show ∀d',RotOf d d' (m - i0) i0 j0→RotOf d d' a (m - a) (b - m)from fun d' h=>by rw [hi0,hj0,show m - (m - a)=a by omega]at h;exact h)
 have e1:(m:Int) - (a:Int)=(i0:Int):=by omega
 have e2:(b:Int) - (m:Int)=(j0:Int):=by omega
 have hi1:i0≤m - a∧0<i0:=by omega
 have hj1:j0≤b - m∧0<j0:=by omega
 clear S hi0 hj0
 go_enter Tryz.func323,Tryz.ntmps323
 go_wp2_with fail
 go_loopg [10,11] (i0+j0) (fun gk vi vj wr=> ∃(i j:Nat) (dk:Array Ev),gk=i+j∧vi = .int .i64 i∧vj = .int .i64 j∧0<i∧0<j∧i≤m - a∧j≤b - m∧dk.size=N∧Hid (∀d',RotOf dk d' (m - i) i j→RotOf d d' a (m - a) (b - m))∧Hid (PermIn a b d dk)∧Hid (SWK evEnc 3 w0 blk 0 dk wr))
 case atStart=>exact⟨i0,j0,d,rfl,rfl,rfl,hi1.2,hj1.2,hi1.1,hj1.1,hd,Z0,P0,S0⟩
 case round =>
  obtain⟨i,j,dk,rfl,rfl,rfl,hi,hj,him,hjb,hdk,Z1,P1,S1⟩:=hrel
  clear S0 P0 Z0 e1 e2 hi1 hj1
  obtain⟨lo,hlo⟩ : ∃lo,lo=m - i:=⟨_,rfl⟩
  have e1:(m:Int) - (i:Int)=(lo:Int):=by omega
  have HLO:=Lib.hid hlo
  have hlm:lo+i=m:=by omega
  have HLM:=Lib.hid hlm
  have hal:a≤lo:=by omega
  clear hlo hlm
  by_cases hij:i=j
  ·subst hij
   go_wp2_with fail
   refine(swapRange_ev gq blk cap lo m i N d0 dk w0 _ R hd0 hdk S1.out (by have:=HLM.out;omega) (by omega) hsz).mono ?_
   rintro e w1 ⟨rfl,d1,W1,Q1,S2⟩
   go_wp2_with fail
   go_end0
   refine⟨rfl,d1,Z1.out d1 ?_,permIn_trans _ _ _ _ _ P1.out (permIn_mono _ _ _ _ _ _ hal (by omega) (by omega) Q1),S2⟩
   have:=HLM.out
   rw [←HLO.out]
   exact RotOf.last (by rw [this];exact W1)
  ·by_cases hji:j<i
   ·have hz : ¬(i:Int)=(j:Int):=by omega
    have hz2:(j:Int)<(i:Int):=by omega
    obtain⟨k,hk⟩ : ∃k,k=i - j:=⟨_,rfl⟩
    have e3:(i:Int) - (j:Int)=(k:Int):=by omega
    have HK:=Lib.hid hk
    have hk0:0<k:=by omega
    clear hk
    go_wp2_with fail
    refine(swapRange_ev gq blk cap lo m j N d0 dk w0 _ R hd0 hdk S1.out (by have:=HLM.out;omega) (by omega) hsz).mono ?_
    rintro e w1 ⟨rfl,d1,W1,Q1,S2⟩
    go_wp2_with fail
    go_roundg (k+j)
    case measure=>have:=HK.out;omega
    case rel =>
     refine⟨k,j,d1,rfl,rfl,rfl,hk0,hj,by have:=HK.out;omega,hjb,by rw [Q1.1];exact hdk,?_,permIn_trans _ _ _ _ _ P1.out (permIn_mono _ _ _ _ _ _ hal (by omega) (by omega) Q1),S2⟩
     show ∀d',_→_
     intro d' h
     refine Z1.out d' ?_
     have:=HLM.out
     have hk:=HK.out
     rw [←HLO.out]
     refine RotOf.left (by rw [this];exact W1) hji ?_
     rw [←hk,show lo+j=m - k by omega]
     exact h
   ·have hz : ¬(i:Int)=(j:Int):=by omega
    have hz2 : ¬(j:Int)<(i:Int):=by omega
    obtain⟨k,hk⟩ : ∃k,k=j - i:=⟨_,rfl⟩
    have e3:(j:Int) - (i:Int)=(k:Int):=by omega
    obtain⟨q,hq⟩ : ∃q,q=m+j - i:=⟨_,rfl⟩
    have e4:(m:Int)+(j:Int) - (i:Int)=(q:Int):=by omega
    have HK:=Lib.hid hk
    have HQ:=Lib.hid hq
    have hk0:0<k:=by omega
    have hqN:q+i≤N:=by omega
    clear hk hq
    go_wp2_with fail
    refine(swapRange_ev gq blk cap lo q i N d0 dk w0 _ R hd0 hdk S1.out (by have:=HLM.out;have:=HQ.out;omega) hqN hsz).mono ?_
    rintro e w1 ⟨rfl,d1,W1,Q1,S2⟩
    go_wp2_with fail
    go_roundg (i+k)
    case measure=>have:=HK.out;omega
    case rel =>
     refine⟨i,k,d1,rfl,rfl,rfl,hi,hk0,him,by have:=HK.out;omega,by rw [Q1.1];exact hdk,?_,permIn_trans _ _ _ _ _ P1.out (permIn_mono _ _ _ _ _ _ hal (by have:=HQ.out;omega) (by omega) Q1),S2⟩
     show ∀d',_→_
     intro d' h
     refine Z1.out d' ?_
     have hl:=HLM.out
     have hq:=HQ.out
     have hk:=HK.out
     rw [←HLO.out]
     refine RotOf.right (by rw [show lo+j=q by omega];exact W1) (by omega) ?_
     rw [←hk,HLO.out]
     exact h
end Go.Proofs.YtkddkbpoefidpaaGreatDoor
namespace Go.Proofs.YtkddkbpoefidpaaGreatDoor
open Go.RowKit Go.Shelf Go.Sort
instance:Inhabited Pair:=⟨⟨0,0,0,0⟩⟩
def pairEnc (x:Pair):List Value:= [.int .i64 x.a,.int .i64 x.b,.int .i64 x.from_,.int .i64 x.to_]
def okP (x:Pair):Prop:=(x.a≤1048576∧x.b≤1048576)∧(-9223372036854775808≤x.from_∧x.from_≤9223372036854775807)∧(-9223372036854775808≤x.to_∧x.to_≤9223372036854775807)
def Rep.pair:Rep Pair where
 size:=4
 holds _ cs x:=cs=pairEnc x∧okP x
 len:=by rintro w cs x ⟨rfl,_⟩;rfl
 ext:=by rintro w w' cs x h _;exact h
 one:=by rintro w cs x ⟨rfl,_⟩;simp [pairEnc,Value.oneCell']
theorem flat_pair:Rep.pair.flat:=fun _ _ _ _ h=>h
set_option maxHeartbeats 1000000 in
theorem cmpEv_any (x y:Ev) (w:World):Calls Tryz.prog 177 #[.agg (evEnc x).toArray,.agg (evEnc y).toArray] w fun e w'=>e = .returned (.int .i64 (cmpEv x y))∧Gro w w':=by
 unfold evEnc cmpEv
 generalize sideI x.side=s1
 generalize sideI y.side=s2
 obtain⟨_,i1,f1,_⟩:=x
 obtain⟨_,i2,f2,_⟩:=y
 dsimp only
 go_enter Tryz.func177,Tryz.ntmps177
 go_wp2_with fail
 refine(compare_int _ _ _).mono ?_
 rintro e w1 ⟨rfl,rfl⟩
 go_wp2_with fail
 go_ret
 exact⟨rfl,((Gro.refl w).alloc _).alloc _⟩
set_option maxHeartbeats 4000000 in
theorem comparePairs_any (x y:Pair) (w:World):Calls Tryz.prog 181 #[.agg (pairEnc x).toArray,.agg (pairEnc y).toArray] w fun e w'=>e = .returned (.int .i64 (cmpPair x y))∧Gro w w':=by
 obtain⟨a1,b1,f1,t1⟩:=x
 obtain⟨a2,b2,f2,t2⟩:=y
 have hor:cmpPair ⟨a1,b1,f1,t1⟩ ⟨a2,b2,f2,t2⟩=orI [cmpI f1 f2,cmpI a1 a2,cmpI b1 b2]:=by
  simp only [cmpPair,orI]
  (repeat' split) <;> simp_all
 have HO:=Lib.hid hor
 clear hor
 unfold pairEnc
 dsimp only
 go_enter Tryz.func181,Tryz.ntmps181
 go_wp2_with fail
 have c1:((w.alloc (.cells #[.int .i64 a1,.int .i64 b1,.int .i64 f1,.int .i64 t1] 197)).alloc (.cells #[.int .i64 a2,.int .i64 b2,.int .i64 f2,.int .i64 t2] 197)).cell? ⟨w.heap.size,0,none⟩=some (.int .i64 a1):=by go_simp
 have c2:((w.alloc (.cells #[.int .i64 a1,.int .i64 b1,.int .i64 f1,.int .i64 t1] 197)).alloc (.cells #[.int .i64 a2,.int .i64 b2,.int .i64 f2,.int .i64 t2] 197)).cell? ⟨w.heap.size,1,none⟩=some (.int .i64 b1):=by go_simp
 have c3:((w.alloc (.cells #[.int .i64 a1,.int .i64 b1,.int .i64 f1,.int .i64 t1] 197)).alloc (.cells #[.int .i64 a2,.int .i64 b2,.int .i64 f2,.int .i64 t2] 197)).cell? ⟨w.heap.size,2,none⟩=some (.int .i64 f1):=by go_simp
 have c4:((w.alloc (.cells #[.int .i64 a1,.int .i64 b1,.int .i64 f1,.int .i64 t1] 197)).alloc (.cells #[.int .i64 a2,.int .i64 b2,.int .i64 f2,.int .i64 t2] 197)).cell? ⟨w.heap.size+1,0,none⟩=some (.int .i64 a2):=by go_simp
 have c5:((w.alloc (.cells #[.int .i64 a1,.int .i64 b1,.int .i64 f1,.int .i64 t1] 197)).alloc (.cells #[.int .i64 a2,.int .i64 b2,.int .i64 f2,.int .i64 t2] 197)).cell? ⟨w.heap.size+1,1,none⟩=some (.int .i64 b2):=by go_simp
 have c6:((w.alloc (.cells #[.int .i64 a1,.int .i64 b1,.int .i64 f1,.int .i64 t1] 197)).alloc (.cells #[.int .i64 a2,.int .i64 b2,.int .i64 f2,.int .i64 t2] 197)).cell? ⟨w.heap.size+1,2,none⟩=some (.int .i64 f2):=by go_simp
 have hxx:=((Gro.refl w).alloc (.cells #[.int .i64 a1,.int .i64 b1,.int .i64 f1,.int .i64 t1] 197)).alloc (.cells #[.int .i64 a2,.int .i64 b2,.int .i64 f2,.int .i64 t2] 197)
 generalize ((w.alloc (.cells #[.int .i64 a1,.int .i64 b1,.int .i64 f1,.int .i64 t1] 197)).alloc (.cells #[.int .i64 a2,.int .i64 b2,.int .i64 f2,.int .i64 t2] 197))=w1 at c1 c2 c3 c4 c5 c6 hxx ⊢
 go_region_held3 (fun w'=>Gro w w'∧w'.cell? ⟨w.heap.size,0,none⟩=some (.int .i64 a1)∧w'.cell? ⟨w.heap.size,1,none⟩=some (.int .i64 b1)∧w'.cell? ⟨w.heap.size,2,none⟩=some (.int .i64 f1)∧w'.cell? ⟨w.heap.size+1,0,none⟩=some (.int .i64 a2)∧w'.cell? ⟨w.heap.size+1,1,none⟩=some (.int .i64 b2)∧w'.cell? ⟨w.heap.size+1,2,none⟩=some (.int .i64 f2))
  (first |exact⟨hxx.drew,c1,c2,c3,c4,c5,c6⟩ | assumption | exact keepG6 (by assumption) ((Gro.refl _).alloc _))
  (first |(go_at_call 166;refine(compare_int _ _ _).mono ?_;rintro e w2 ⟨rfl,rfl⟩) | (go_at_call 168;refine(or_any w1.heap.size 0 3 [cmpI f1 f2,cmpI a1 a2,cmpI b1 b2] _ (by simp [maxLen]) (by exact fun k hk=>or_new w1 [cmpI f1 f2,cmpI a1 a2,cmpI b1 b2] 3 k hk)).mono ?_;rintro e w2 ⟨rfl,rfl⟩))
 all_goals (obtain⟨hfin,_⟩:= ‹Gro w _∧_›)
 all_goals go_wp2_with fail
 all_goals go_ret
 all_goals rw [HO.out]
 all_goals exact⟨rfl,hfin⟩
end Go.Proofs.YtkddkbpoefidpaaGreatDoor
namespace Go.Proofs.YtkddkbpoefidpaaGreatDoor
open Go.RowKit Go.Shelf Go.Sort
theorem swk_other {w0 W:World} {g:Nat} {d:Array Ev} (h:SWK actEnc 2 w0 g 0 d W) {p:Addr} {v:Value} (hc:w0.cell? p=some v) (hne:p.block≠g):W.cell? p=some v:=by
 obtain⟨n,os,rfl⟩:=h
 exact(World.cell?_of_block (sortWorld_block actEnc 2 w0 g 0 n d os p.block (World.block_lt_of_cell? w0 p hc) hne)).trans hc
theorem swk_free {w0 W:World} {g:Nat} {d:Array Ev} (h:SWK actEnc 2 w0 g 0 d W) {p:Addr} {v:Value} (hc:w0.cell? p=some v) (hf:w0.frozen? p=false) (hne:p.block≠g):W.frozen? p=false:=by
 obtain⟨n,os,rfl⟩:=h
 exact(World.frozen?_of_block (sortWorld_block actEnc 2 w0 g 0 n d os p.block (World.block_lt_of_cell? w0 p hc) hne)).trans hf
theorem swk_gro {w0 W W':World} {g:Nat} {d:Array Ev} (h:SWK actEnc 2 w0 g 0 d W) (hg:Gro W W'):SWK actEnc 2 w0 g 0 d W':=by
 obtain⟨n,os,rfl⟩:=hg.grown
 exact h.grown n os
theorem load_queue (a:Addr) (p:Option Addr) (n c:Nat) (w:World) (h:w.cell? a=some (.slice p n c)):(loadVar 252 a).run Tryz.prog w = .ok (.slice p n c) w:=by
 unfold loadVar
 simp [Sem.run_bind,go_sem,h]
theorem method_len (f:Nat) (a:Addr) (p:Option Addr) (n c:Nat) (w:World) (h:w.cell? a=some (.slice p n c)):(method (f+1) 259 (.pointer (some a)) "Len").run Tryz.prog w = .ok (245,.slice p n c) w:=by
 have e:(method (f+1) 259 (.pointer (some a)) "Len").run Tryz.prog w=((loadVar 252 a) >>= fun v=>pure (245,v)).run Tryz.prog w:=by kernel_rfl
 rw [e]
 simp [load_queue a p n c w h]
theorem method_less (f:Nat) (a:Addr) (p:Option Addr) (n c:Nat) (w:World) (h:w.cell? a=some (.slice p n c)):(method (f+1) 259 (.pointer (some a)) "Less").run Tryz.prog w = .ok (357,.slice p n c) w:=by
 have e:(method (f+1) 259 (.pointer (some a)) "Less").run Tryz.prog w=((loadVar 252 a) >>= fun v=>pure (357,v)).run Tryz.prog w:=by kernel_rfl
 rw [e]
 simp [load_queue a p n c w h]
theorem method_swap (f:Nat) (a:Addr) (p:Option Addr) (n c:Nat) (w:World) (h:w.cell? a=some (.slice p n c)):(method (f+1) 259 (.pointer (some a)) "Swap").run Tryz.prog w = .ok (358,.slice p n c) w:=by
 have e:(method (f+1) 259 (.pointer (some a)) "Swap").run Tryz.prog w=((loadVar 252 a) >>= fun v=>pure (358,v)).run Tryz.prog w:=by kernel_rfl
 rw [e]
 simp [load_queue a p n c w h]
theorem method_push (f:Nat) (a:Addr) (w:World):(method (f+1) 259 (.pointer (some a)) "Push").run Tryz.prog w = .ok (360,.pointer (some a)) w:=by kernel_rfl
theorem method_pop (f:Nat) (a:Addr) (w:World):(method (f+1) 259 (.pointer (some a)) "Pop").run Tryz.prog w = .ok (359,.pointer (some a)) w:=by kernel_rfl
set_option maxRecDepth 100000 in
set_option maxHeartbeats 4000000 in
theorem up_act (qb s g cap j n:Nat) (d0 d:Array Ev) (w0 w:World) (R:RowK actEnc 2 w0 g 0 d0) (hq:w0.cell? ⟨qb,s,none⟩=some (.slice (some ⟨g,0,none⟩) n cap)) (hne:qb≠g)
  (S:SWK actEnc 2 w0 g 0 d w) (hd0:d0.size=n) (hd:d.size=n) (hj:j<n) (hsz:n≤1048576) (hI:UpInv ltAct n d j) :
  Calls Tryz.prog 247 #[.iface 259 (.pointer (some ⟨qb,s,none⟩)),.int .i64 j] w fun e w'=>e = .returned (.tuple #[])∧ ∃d',SWK actEnc 2 w0 g 0 d' w'∧d'.size=n∧PermIn 0 n d d'∧HeapTo ltAct n d':=by
 have S0:=Lib.hid S
 have I0:=Lib.hid hI
 have P0:=Lib.hid (permIn_refl d 0 n)
 clear S hI
 go_enter Tryz.func247,Tryz.ntmps247
 go_wp2_with fail
 go_loopg [1,4] j (fun gk vj vi wr=> ∃(k:Nat) (dk:Array Ev),k=gk∧vj = .int .i64 k∧k<n∧dk.size=n∧Hid (PermIn 0 n d dk)∧Hid (UpInv ltAct n dk k)∧Hid (SWK actEnc 2 w0 g 0 dk wr))
 case atStart=>exact⟨j,d,rfl,rfl,hj,hd,P0,I0,S0⟩
 case round =>
  obtain⟨k,dk,rfl,rfl,hk,hdk,P1,I1,S1⟩:=hrel
  have cq:=swk_other S1.out hq hne
  have hm:=fun f=>method_less f ⟨qb,s,none⟩ (some ⟨g,0,none⟩) n cap wr cq
  by_cases hk0:k=0
  ·subst hk0
   have w1:(((0:Nat):Int) - 1).tdiv 2=((0:Nat):Int):=by decide
   go_wp2_with fail
   go_end0
   exact⟨rfl,dk,S1.out,hdk,P1.out,I1.out.stop (.inl rfl)⟩
  ·obtain⟨i,hi⟩ : ∃i,i=(k - 1) / 2:=⟨_,rfl⟩
   have w1:(((k:Int) - 1).tdiv 2)=(i:Int):=by rw [Int.tdiv_eq_ediv_of_nonneg (by omega)];omega
   have w2:IntKind.i64.wrap (i:Int)=(i:Int):=by rw [IntKind.wrap_i64];omega
   have hkz:((i:Int)==(k:Int))=false:=by simp;omega
   have HI:=Lib.hid hi
   have hik:i<k:=by omega
   clear hi
   go_wp2_with fail
   refine(less_act g n cap dk k i _ (S1.out.holds R.hblk R.hH (by omega)) hdk (by omega) (by omega)).mono ?_
   rintro e w3 ⟨rfl,hx3⟩
   have S3:=Lib.hid (swk_gro S1.out hx3)
   have cq3:=swk_other S3.out hq hne
   have hm3:=fun f=>method_swap f ⟨qb,s,none⟩ (some ⟨g,0,none⟩) n cap w3 cq3
   cases hl:ltAct dk[k]! dk[i]!
   ·have HL:=Lib.hid hl
    clear hl
    go_wp2_with fail
    go_end0
    exact⟨rfl,dk,S3.out,hdk,P1.out,I1.out.stop (.inr (by rw [←HI.out];exact HL.out))⟩
   ·have HL:=Lib.hid hl
    clear hl
    go_wp2_with fail
    refine(swap_act g n cap d0 dk i k w0 _ R (by omega) hdk S3.out (by omega) (by omega)).mono ?_
    rintro e w4 ⟨rfl,S4⟩
    go_wp2_with fail
    go_roundg i
    case measure=>omega
    case rel =>
     refine⟨i,swp dk i k,rfl,rfl,by omega,by rw [size_swp];exact hdk,?_,?_,S4⟩
     ·exact permIn_trans _ _ _ _ _ P1.out (swp_permIn _ _ _ _ _ (by omega) (by omega) (by omega) (by omega) (by omega))
     ·have h1:=UpInv.step swo_act I1.out hk (by omega) (by omega) (by rw [←HI.out];exact HL.out)
      rw [←HI.out]at h1
      exact h1
end Go.Proofs.YtkddkbpoefidpaaGreatDoor
namespace Go.Proofs.YtkddkbpoefidpaaGreatDoor
open Go.RowKit Go.Shelf Go.Sort
set_option maxRecDepth 100000 in
set_option maxHeartbeats 4000000 in
theorem down_act (qb s g cap n N:Nat) (d0 d:Array Ev) (w0 w:World) (R:RowK actEnc 2 w0 g 0 d0) (hq:w0.cell? ⟨qb,s,none⟩=some (.slice (some ⟨g,0,none⟩) N cap)) (hne:qb≠g)
  (S:SWK actEnc 2 w0 g 0 d w) (hd0:d0.size=N) (hd:d.size=N) (hn:n≤N) (hsz:N≤1048576) (hI:DownInv ltAct n d 0) :
  Calls Tryz.prog 289 #[.iface 259 (.pointer (some ⟨qb,s,none⟩)),.int .i64 0,.int .i64 n] w fun e w'=> ∃b,e = .returned (.bool b)∧ ∃d',SWK actEnc 2 w0 g 0 d' w'∧d'.size=N∧PermIn 0 n d d'∧HeapTo ltAct n d':=by
 have S0:=Lib.hid S
 have I0:=Lib.hid hI
 have P0:=Lib.hid (permIn_refl d 0 n)
 clear S hI
 go_enter Tryz.func289,Tryz.ntmps289
 go_wp2_with fail
 go_loopg [7] n (fun gk vi wr=> ∃(k:Nat) (dk:Array Ev),gk=n - k∧vi = .int .i64 k∧k≤n∧dk.size=N∧Hid (PermIn 0 n d dk)∧Hid (DownInv ltAct n dk k)∧Hid (SWK actEnc 2 w0 g 0 dk wr))
 case atStart=>exact⟨0,d,rfl,rfl,by omega,hd,P0,I0,S0⟩
 case round =>
  obtain⟨k,dk,rfl,rfl,hk,hdk,P1,I1,S1⟩:=hrel
  obtain⟨a,ha⟩ : ∃a,a=2*k+1:=⟨_,rfl⟩
  have e1:2*(k:Int)+1=(a:Int):=by omega
  by_cases h1:n≤a
  ·have hz:(n:Int)≤(a:Int):=by omega
   have HA:=Lib.hid ha
   clear ha
   go_wp2_with fail
   go_ret
   exact⟨_,rfl,dk,S1.out,hdk,P1.out,DownInv.leaf I1.out (by have:=HA.out;omega)⟩
  ·have hz : ¬(n:Int)≤(a:Int):=by omega
   have hz2 : ¬(a:Int)<0:=by omega
   obtain⟨b,hb⟩ : ∃b,b=a+1:=⟨_,rfl⟩
   have e2:(a:Int)+1=(b:Int):=by omega
   have hka:k<a:=by omega
   have hab:a<b:=by omega
   have HA:=Lib.hid ha
   have HB:=Lib.hid hb
   clear ha hb
   by_cases h2:b<n
   ·have hz3:(b:Int)<(n:Int):=by omega
    have cq:=swk_other S1.out hq hne
    have hm:=fun f=>method_less f ⟨qb,s,none⟩ (some ⟨g,0,none⟩) N cap wr cq
    go_wp2_with fail
    refine(less_act g N cap dk b a _ (S1.out.holds R.hblk R.hH (by omega)) hdk (by omega) (by omega)).mono ?_
    rintro e w3 ⟨rfl,hx3⟩
    have S3:=Lib.hid (swk_gro S1.out hx3)
    cases hl:ltAct dk[b]! dk[a]!
    ·have HL:=Lib.hid hl
     clear hl
     have SM:=Lib.hid (show Small ltAct n dk k a from ⟨.inl HA.out,by omega,fun x hx hc=>by have:=HA.out;have:=HB.out;exact hc.elim (fun hc=>by rw [show x=a by omega];exact swo_act.irrefl _) (fun hc=>by rw [show x=b by omega];exact HL.out)⟩)
     have cqb:=swk_other S3.out hq hne
     have hmb:=fun f=>method_less f ⟨qb,s,none⟩ (some ⟨g,0,none⟩) N cap w3 cqb
     go_wp2_with fail
     refine(less_act g N cap dk a k _ (S3.out.holds R.hblk R.hH (by omega)) hdk (by omega) (by omega)).mono ?_
     rintro e w5 ⟨rfl,hx5⟩
     have S5:=Lib.hid (swk_gro S3.out hx5)
     have cq5:=swk_other S5.out hq hne
     have hm5:=fun f=>method_swap f ⟨qb,s,none⟩ (some ⟨g,0,none⟩) N cap w5 cq5
     cases hl2:ltAct dk[a]! dk[k]!
     ·have HL2:=Lib.hid hl2
      clear hl2
      go_wp2_with fail
      go_ret
      exact⟨_,rfl,dk,S5.out,hdk,P1.out,DownInv.stop swo_act I1.out SM.out HL2.out⟩
     ·have HL2:=Lib.hid hl2
      clear hl2
      go_wp2_with fail
      refine(swap_act g N cap d0 dk k a w0 _ R (by omega) hdk S5.out (by omega) (by omega)).mono ?_
      rintro e w6 ⟨rfl,S6⟩
      go_wp2_with fail
      go_roundg (n - a)
      case measure=>omega
      case rel =>
       refine⟨a,swp dk k a,rfl,rfl,by omega,by rw [size_swp];exact hdk,?_,?_,S6⟩
       ·exact permIn_trans _ _ _ _ _ P1.out (swp_permIn _ _ _ _ _ (by omega) (by omega) (by omega) (by omega) (by omega))
       ·exact DownInv.step swo_act I1.out (by omega) SM.out HL2.out
    ·have HL:=Lib.hid hl
     clear hl
     have SM:=Lib.hid (show Small ltAct n dk k b from ⟨.inr (by have:=HA.out;have:=HB.out;omega),by omega,fun x hx hc=>by have:=HA.out;have:=HB.out;exact hc.elim (fun hc=>by rw [show x=a by omega];exact SWO.asymmA swo_act HL.out) (fun hc=>by rw [show x=b by omega];exact swo_act.irrefl _)⟩)
     have cqb:=swk_other S3.out hq hne
     have hmb:=fun f=>method_less f ⟨qb,s,none⟩ (some ⟨g,0,none⟩) N cap w3 cqb
     go_wp2_with fail
     refine(less_act g N cap dk b k _ (S3.out.holds R.hblk R.hH (by omega)) hdk (by omega) (by omega)).mono ?_
     rintro e w5 ⟨rfl,hx5⟩
     have S5:=Lib.hid (swk_gro S3.out hx5)
     have cq5:=swk_other S5.out hq hne
     have hm5:=fun f=>method_swap f ⟨qb,s,none⟩ (some ⟨g,0,none⟩) N cap w5 cq5
     cases hl2:ltAct dk[b]! dk[k]!
     ·have HL2:=Lib.hid hl2
      clear hl2
      go_wp2_with fail
      go_ret
      exact⟨_,rfl,dk,S5.out,hdk,P1.out,DownInv.stop swo_act I1.out SM.out HL2.out⟩
     ·have HL2:=Lib.hid hl2
      clear hl2
      go_wp2_with fail
      refine(swap_act g N cap d0 dk k b w0 _ R (by omega) hdk S5.out (by omega) (by omega)).mono ?_
      rintro e w6 ⟨rfl,S6⟩
      go_wp2_with fail
      go_roundg (n - b)
      case measure=>omega
      case rel =>
       refine⟨b,swp dk k b,rfl,rfl,by omega,by rw [size_swp];exact hdk,?_,?_,S6⟩
       ·exact permIn_trans _ _ _ _ _ P1.out (swp_permIn _ _ _ _ _ (by omega) (by omega) (by omega) (by omega) (by omega))
       ·exact DownInv.step swo_act I1.out (by omega) SM.out HL2.out
   ·have hz3 : ¬(b:Int)<(n:Int):=by omega
    have SM:=Lib.hid (show Small ltAct n dk k a from ⟨.inl HA.out,by omega,fun x hx hc=>by have:=HA.out;have:=HB.out;rw [show x=a by omega];exact swo_act.irrefl _⟩)
    have cqb:=swk_other S1.out hq hne
    have hmb:=fun f=>method_less f ⟨qb,s,none⟩ (some ⟨g,0,none⟩) N cap wr cqb
    go_wp2_with fail
    refine(less_act g N cap dk a k _ (S1.out.holds R.hblk R.hH (by omega)) hdk (by omega) (by omega)).mono ?_
    rintro e w5 ⟨rfl,hx5⟩
    have S5:=Lib.hid (swk_gro S1.out hx5)
    have cq5:=swk_other S5.out hq hne
    have hm5:=fun f=>method_swap f ⟨qb,s,none⟩ (some ⟨g,0,none⟩) N cap w5 cq5
    cases hl2:ltAct dk[a]! dk[k]!
    ·have HL2:=Lib.hid hl2
     clear hl2
     go_wp2_with fail
     go_ret
     exact⟨_,rfl,dk,S5.out,hdk,P1.out,DownInv.stop swo_act I1.out SM.out HL2.out⟩
    ·have HL2:=Lib.hid hl2
     clear hl2
     go_wp2_with fail
     refine(swap_act g N cap d0 dk k a w0 _ R (by omega) hdk S5.out (by omega) (by omega)).mono ?_
     rintro e w6 ⟨rfl,S6⟩
     go_wp2_with fail
     go_roundg (n - a)
     case measure=>omega
     case rel =>
      refine⟨a,swp dk k a,rfl,rfl,by omega,by rw [size_swp];exact hdk,?_,?_,S6⟩
      ·exact permIn_trans _ _ _ _ _ P1.out (swp_permIn _ _ _ _ _ (by omega) (by omega) (by omega) (by omega) (by omega))
      ·exact DownInv.step swo_act I1.out (by omega) SM.out HL2.out
end Go.Proofs.YtkddkbpoefidpaaGreatDoor
namespace Go.Proofs.YtkddkbpoefidpaaGreatDoor
open Go.RowKit Go.Shelf Go.Sort
theorem info_act:(Tryz.prog.info? 256).map (fun i=>(i.zero,i.size,i.bytes))=some (some (.agg #[.int .i64 0,.int .i64 0]),Rep.act.size,16):=by kernel_rfl
structure QAt (w:World) (qb s B:Nat) (v:Value) (xs:List Ev):Prop where
 cell:w.cell? ⟨qb,s,none⟩=some v
 free:w.frozen? ⟨qb,s,none⟩=false
 own:OwnOf Rep.act w (fun _=>True) B 256 v xs
 ne:v.ownBlock≠some qb
 base:B≤w.heap.size
theorem QAt.chg {w w':World} {qb s B:Nat} {v:Value} {xs:List Ev} (h:QAt w qb s B v xs) {C:Nat→Prop} (hx:Chg C w w') (h1 : ¬C qb) (h2 : ∀k,v.ownBlock=some k→ ¬C k):QAt w' qb s B v xs :=
 ⟨hx.at h.cell h1,hx.free h.cell h.free h1,h.own.chg flat_act hx h2,h.ne,Nat.le_trans h.base hx.size⟩
def Oth (w w':World) (qb s:Nat):Prop:= ∀j,j≠s→w'.cell? ⟨qb,j,none⟩=w.cell? ⟨qb,j,none⟩∧w'.frozen? ⟨qb,j,none⟩=w.frozen? ⟨qb,j,none⟩
theorem Oth.refl (w:World) (qb s:Nat):Oth w w qb s:=fun _ _=>⟨rfl,rfl⟩
theorem Oth.trans {a b c:World} {qb s:Nat} (h:Oth a b qb s) (k:Oth b c qb s):Oth a c qb s:=fun j hj=>⟨(k j hj).1.trans (h j hj).1,(k j hj).2.trans (h j hj).2⟩
theorem Oth.of_chg {C:Nat→Prop} {w w':World} {qb s:Nat} (h:Chg C w w') (hq:qb<w.heap.size) (hn : ¬C qb):Oth w w' qb s:=fun _ _ =>
 ⟨World.cell?_of_block (w:=w) (h.block qb hq hn),World.frozen?_of_block (w:=w) (h.block qb hq hn)⟩
theorem Oth.set (w:World) (qb s:Nat) (u:Value):Oth w (w.setCell ⟨qb,s,none⟩ u) qb s:=fun j hj =>
 ⟨World.cell?_setCell_other _ _ _ _ (by intro e;injection e with _ e _;exact hj e.symm),by rw [World.frozen?_setCell]⟩
theorem OwnOf.shape {α:Type} {R:Rep α} {w:World} {S:Nat→Prop} {base:Nat} {e:TypeId} {v:Value} {xs:List α} (h:OwnOf R w S base e v xs) : ∃p n c,v = .slice p n c:=by
 rcases h.form with ⟨rfl,_⟩ | ⟨g,cap,rfl,_⟩
 ·exact⟨_,_,_,rfl⟩
 ·exact⟨_,_,_,rfl⟩
theorem flat_lone {α:Type} {R:Rep α} (h:View) (b:Nat) (cs:List Value) (x:α) (hx:R.holds h cs x) (h0 : ∀j u,cs[j]?=some u→h ⟨b,j,none⟩=some u):SliceOf R h (.slice (some ⟨b,0,none⟩) 1 1) [x] :=
 ⟨[cs],⟨hx,trivial⟩,.inr ⟨_,1,rfl,Nat.le_refl _,by simp [maxLen],.inr ⟨b,0,rfl,fun j u hj=>by
  rw [Nat.zero_add]
  exact h0 j u (by simpa using hj)⟩⟩⟩
theorem lone_act {w:World} {v:Value} {x:Ev} {xs:List Ev} {S:Nat→Prop} {base:Nat} {e T:TypeId} (hr:okE x) (own:OwnOf Rep.act w S base e v xs) :
  SliceOf Rep.act (on (w.alloc (.cells #[.int .i64 x.idx,.int .i64 x.to_] T)) (avoid (fun _=>True) v)) (.slice (some ⟨w.heap.size,0,none⟩) 1 1) [x] :=
 flat_lone _ _ (actEnc x) x ⟨rfl,hr⟩ fun j u hj=>on_some.2 ⟨⟨fun e=>Nat.lt_irrefl _ (own.lt _ e.symm).2,trivial⟩,by
  have:=cells_new w (actEnc x) T j u hj
  rwa [add_lit,Nat.zero_add]at this⟩
set_option maxHeartbeats 4000000 in
theorem push_act (qb s B:Nat) (v:Value) (xs:List Ev) (y:Ev) (w:World) (hq:QAt w qb s B v xs) (hy:okE y) (hl:xs.length≤1048576) :
  Calls Tryz.prog 360 #[.pointer (some ⟨qb,s,none⟩),.iface 256 (.agg (actEnc y).toArray)] w fun e w'=>e = .returned (.tuple #[]) ∧
   ∃v',QAt w' qb s B v' (xs ++ [y])∧(v'.ownBlock=v.ownBlock∨ ∃k,v'.ownBlock=some k∧w.heap.size≤k)∧Chg (fun k=>k=qb∨v.ownBlock=some k) w w'∧Oth w w' qb s:=by
 obtain⟨i0,hi,hz0,hz1,hz2⟩:=info_parts info_act
 have mixed:=mixedOrd
 have hta : ∀(x:Value) (w:World),(Instr.typeAssert (.iface 256 x) 20 256 false).run Tryz.prog w = .ok x w:=fun x w=>by kernel_rfl
 have HQ:=Lib.hid hq
 have HY:=Lib.hid hy
 have cq:=hq.cell
 have fq:=hq.free
 have hqb:=cell_lt cq
 have hfin : ∀(T:TypeId) (W w1:World) (v1:Value),Ext w W→OwnOf Rep.act w1 (fun _=>True) B 256 v1 (xs ++ [y])→W.grownBy w1 v.ownBlock→(v1.ownBlock=v.ownBlock∨v1.ownBlock=some W.heap.size) →
   ∃v',QAt (w1.setCell ⟨qb,s,none⟩ v1) qb s B v' (xs ++ [y])∧(v'.ownBlock=v.ownBlock∨ ∃k,v'.ownBlock=some k∧w.heap.size≤k)∧Chg (fun k=>k=qb∨v.ownBlock=some k) w (w1.setCell ⟨qb,s,none⟩ v1)∧Oth w (w1.setCell ⟨qb,s,none⟩ v1) qb s:=by
  intro T W w1 v1 hx own gr hat
  have hqw:=HQ.out
  have c1:w1.cell? ⟨qb,s,none⟩=some v:=gr.cell (hx.at cq) (fun e=>hqw.ne e.symm)
  have hch:Chg (fun k=>v.ownBlock=some k) w w1:=(hx.chg _).trans (chg_grown gr)
  have hne:v1.ownBlock≠some qb:=by
   rcases hat with h | h
   · rw [h];exact hqw.ne
   · rw [h]
     intro e
     injection e with e
     have:=hx.size
     omega
  refine⟨v1,⟨by rw [World.cell?_setCell_same' _ _ _ (by rw [c1];rfl)],?_,own.chg flat_act (chg_set _ _ _) (fun k hk e=>hne (by rw [hk,e])),hne,Nat.le_trans (Nat.le_trans hqw.base hch.size) (by simp [World.setCell])⟩,?_,(hch.mono fun k _ h=> .inr h).setCell (.inl (.inl rfl)) _,(Oth.of_chg hch hqb hqw.ne).trans (Oth.set w1 qb s v1)⟩
  ·rw [World.frozen?_setCell]
   exact hch.free cq fq hqw.ne
  ·rcases hat with h | h
   · exact .inl h
   · exact .inr ⟨_,h,hx.size⟩
 have HF:=Lib.hid hfin
 clear hfin hq hy
 obtain⟨p,n,c,hv⟩:=HQ.out.own.shape
 subst hv
 have B1:xs.length + [y].length≤maxLen:=by simp [maxLen];omega
 have B2:(xs.length + [y].length)*16≤140737488355328:=by simp;omega
 unfold actEnc
 generalize hyi:y.idx=yi
 generalize hyt:y.to_=yt
 have HYI:=Lib.hid hyi
 have HYT:=Lib.hid hyt
 clear hyi hyt
 go_enter Tryz.func360,Tryz.ntmps360
 go_wp2_with fail
 go_region_law (first
  |((with_reducible refine key_op 11 ?_);(try simp only [Act.put,List.setIfInBounds_toArray,List.set_cons_zero,List.set_cons_succ]);refine step_append_all Rep.act (fun _=>True) rfl _ _ 252 rfl B 256 i0 _ 16 Tryz.underlying252 hi hz0 hz1 hz2 rfl (by decide) (.slice p n c) xs rfl (by exact HQ.out.own.ext ((Ext.refl _).drew.alloc _)) _ [y] rfl (by have h:=lone_act (T:=256) HY.out (HQ.out.own.ext (Ext.refl _).drew);rw [HYI.out,HYT.out]at h;exact h) B1 B2 (by exact Nat.le_trans HQ.out.base (by simp)) ?_;intro v1 w1 own1 gr1 at1;have c1:=gr1.cell ((Ext.refl w).drew.alloc (.cells #[.int .i64 yi,.int .i64 yt] 256) |>.at cq) (fun e=>HQ.out.ne e.symm);have f1:=(chg_grown gr1).free ((Ext.refl w).drew.alloc (.cells #[.int .i64 yi,.int .i64 yt] 256) |>.at cq) ((Ext.refl w).drew.alloc (.cells #[.int .i64 yi,.int .i64 yt] 256) |>.unfrozen cq fq) HQ.out.ne;obtain⟨p1,n1,k1,hv1⟩:=own1.shape;subst hv1))
 all_goals go_wp2_with fail
 all_goals go_end0
 all_goals exact⟨rfl,HF.out 256 _ _ _ ((Ext.refl w).drew.alloc _) own1 gr1 at1⟩
set_option maxHeartbeats 4000000 in
theorem pop_act (qb s B:Nat) (v:Value) (xs:List Ev) (N n:Nat) (w:World) (hq:QAt w qb s B v xs) (hN:xs.length=N) (hn:N=n+1) (hl:xs.length≤1048576) :
  Calls Tryz.prog 359 #[.pointer (some ⟨qb,s,none⟩)] w fun e w'=> ∃r v',e = .returned r∧QAt w' qb s B v' (xs.take n)∧v'.ownBlock=v.ownBlock∧Chg (fun k=>k=qb) w w'∧Oth w w' qb s:=by
 have mixed:=mixedOrd
 have cq:=hq.cell
 have fq:=hq.free
 have hqb:=cell_lt cq
 have hne:=hq.ne
 rcases hq.own.form with ⟨rfl,h0⟩ | ⟨g,cap,rfl,hBg,hc1,hc2⟩
 ·rw [h0]at hN;simp at hN;omega
 have htk:=hq.own.take (n:=n) (by omega)
 have hfin : ∀w1:World,Chg (fun k=>k=qb) w (w1.setCell ⟨qb,s,none⟩ (.slice (some ⟨g,0,none⟩) n cap))→w1.cell? ⟨qb,s,none⟩=some (.slice (some ⟨g,0,none⟩) N cap)→w1.frozen? ⟨qb,s,none⟩=false→QAt (w1.setCell ⟨qb,s,none⟩ (.slice (some ⟨g,0,none⟩) n cap)) qb s B (.slice (some ⟨g,0,none⟩) n cap) (xs.take n) :=
  fun w1 hx hc hf=>⟨by rw [World.cell?_setCell_same' _ _ _ (by rw [hc];rfl)],by rw [World.frozen?_setCell];exact hf,htk.chg flat_act hx (fun k hk e=>hne (by rw [←e];exact hk)),hne,Nat.le_trans hq.base hx.size⟩
 have hget:n<xs.length:=by omega
 obtain⟨ca,cb⟩ : ∃x:Ev,w.cell? ⟨g,n*2,none⟩=some (.int .i64 x.idx)∧w.cell? ⟨g,n*2+1,none⟩=some (.int .i64 x.to_):=by
  obtain⟨g',cap',cur,he,_,_,_,_,_,hH,_⟩:=own_split act_iff hq.own (by omega)
  injection he with e1 _ _
  injection e1 with e1
  injection e1 with e1
  subst e1
  exact⟨_,act_cell hH n (by simpa using hget)⟩
 obtain⟨cb,cc⟩:=cb
 generalize ca.idx=yi at cb
 generalize ca.to_=yt at cc
 have hgb:=cell_lt cb
 have hgq:g≠qb:=fun e=>hne (by rw [←e];rfl)
 have HF:=Lib.hid hfin
 have e1:(N:Int) - 1=(n:Int):=by omega
 have e2:(n:Int)<(N:Int):=by omega
 have e3:(n:Int)≤(cap:Int):=by omega
 have e4:n≤cap:=by omega
 have e5:0<cap:=by omega
 have e6 : ¬cap=0:=by omega
 have e7:n≤1048576:=by omega
 rw [hN]at cq ⊢
 clear hfin htk hq hn hN hc1 hne hget
 go_enter Tryz.func359,Tryz.ntmps359
 go_wp2_with fail
 go_big_region_o
 all_goals go_wp2_with fail
 all_goals go_big_region_o
 all_goals go_wp2_with fail
 all_goals go_ret
 all_goals exact⟨_,_,rfl,(HF.out w (chg_set w ⟨qb,s,none⟩ _) cq fq).chg (C:=fun _=>False) ((((Ext.refl _).alloc _).drew.drew).chg _) (fun h=>h) (fun _ _ h=>h),rfl,((chg_set w ⟨qb,s,none⟩ _).alloc _).drew.drew,(Oth.set w qb s _).trans (Oth.of_chg (C:=fun _=>False) ((((Ext.refl _).alloc _).drew.drew).chg _) (by simpa [World.setCell] using hqb) fun h=>h)⟩
end Go.Proofs.YtkddkbpoefidpaaGreatDoor
namespace Go.Proofs.YtkddkbpoefidpaaGreatDoor
open Go.RowKit Go.Shelf Go.Sort
def HeapL (xs:List Ev):Prop:=HeapTo ltAct xs.length xs.toArray
theorem get_list (xs:List Ev) (k:Nat) (hk:k<xs.length):xs.toArray[k]! = xs[k]:=by
 rw [getElem!_pos xs.toArray k (by simpa using hk)];simp
theorem heapL_root {xs:List Ev} (h:HeapL xs) (h0:0<xs.length) {x:Ev} (hx:x∈xs):xs[0].to_≤x.to_:=by
 obtain⟨k,hk,rfl⟩:=List.getElem_of_mem hx
 have h1:=HeapTo.root swo_act h k hk
 rw [get_list xs k hk,get_list xs 0 h0]at h1
 unfold ltAct at h1
 simp only [decide_eq_false_iff_not]at h1
 omega
theorem QAt.split {w:World} {qb s B:Nat} {v:Value} {xs:List Ev} (h:QAt w qb s B v xs) (hn:0<xs.length) :
  ∃g cap,v = .slice (some ⟨g,0,none⟩) xs.length cap∧qb≠g∧RowK actEnc 2 w g 0 xs.toArray∧(∀x∈xs,okE x) ∧
   ∀d' w',SWK actEnc 2 w g 0 d' w'→d'.size=xs.length→(∀x∈d'.toList,okE x)→QAt w' qb s B v d'.toList∧Chg (fun k=>v.ownBlock=some k) w w':=by
 obtain⟨g,cap,cur,rfl,hb,hh,hc1,hc2,hsz,hH,hok⟩:=own_split act_iff h.own hn
 have hne:qb≠g:=fun e=>h.ne (by rw [e];rfl)
 refine⟨g,cap,rfl,hne,⟨act_len,act_one,hH,(Array.getElem?_eq_some_iff.1 hh).1⟩,hok,fun d' w' hS hd hk=> ?_⟩
 have hc:=swk_other hS h.cell hne
 have hf:=swk_free hS h.cell h.free hne
 obtain⟨m,os,rfl⟩:=hS
 have hch:=chg_grown (sortWorld_grown actEnc 2 w g 0 m d' os)
 refine⟨⟨hc,hf,own_back act_iff act_len hb hh hc1 hc2 hsz hd hk,h.ne,Nat.le_trans h.base hch.size⟩,hch⟩
theorem perm_of_permIn {N:Nat} {d d':Array Ev} (p:PermIn 0 N d d') (hd:d.size=N):d'.toList.Perm d.toList:=by
 have:=p.2.2
 rwa [extract_all _ _ (by rw [p.1];exact hd),extract_all _ _ hd]at this
set_option maxHeartbeats 1000000 in
theorem heapPush_act (qb s B:Nat) (v:Value) (xs:List Ev) (y:Ev) (w:World) (hq:QAt w qb s B v xs) (hh:HeapL xs) (hy:okE y) (hl:xs.length+1≤1048576) :
  Calls Tryz.prog 179 #[.iface 259 (.pointer (some ⟨qb,s,none⟩)),.iface 256 (.agg (actEnc y).toArray)] w fun e w'=>e = .returned (.tuple #[]) ∧
   ∃v' xs',QAt w' qb s B v' xs'∧HeapL xs'∧xs'.Perm (y::xs)∧(v'.ownBlock=v.ownBlock∨ ∃k,v'.ownBlock=some k∧w.heap.size≤k)∧Chg (fun k=>k=qb∨v.ownBlock=some k) w w'∧Oth w w' qb s:=by
 have HQ:=Lib.hid hq
 have HH:=Lib.hid hh
 have hm:=fun f=>method_push f ⟨qb,s,none⟩ w
 clear hq hh
 go_enter Tryz.func179,Tryz.ntmps179
 go_wp2_with fail
 refine(push_act qb s B v xs y w HQ.out hy (by omega)).mono ?_
 rintro e w1 ⟨rfl,v1,hq1,hv1,hx1,ho1⟩
 have HO1:=Lib.hid ho1
 have HNE:=Lib.hid hq1.ne
 have HQS:=Lib.hid (cell_lt hq1.cell)
 clear ho1
 have hl1:(xs ++ [y]).length=xs.length+1:=by simp
 obtain⟨g,cap,hv,hne,R,hok,hback⟩:=hq1.split (by omega)
 have cq:=hq1.cell
 rw [hl1]at hv
 obtain⟨N,hN⟩ : ∃N,N=xs.length+1:=⟨_,rfl⟩
 rw [←hN]at hv hl1
 rw [hv]at cq
 have hm2:=fun f=>method_len f ⟨qb,s,none⟩ (some ⟨g,0,none⟩) N cap w1 cq
 have hI:UpInv ltAct N (xs ++ [y]).toArray xs.length:=by
  rw [hN]
  exact UpInv.start HH.out fun k hk=>by rw [get_list _ k (by simp;omega),get_list xs k hk,List.getElem_append_left hk]
 have hup:=up_act qb s g cap xs.length N (xs ++ [y]).toArray (xs ++ [y]).toArray w1 w1 R cq hne (SWK.start R.hH) (by simpa using hl1) (by simpa using hl1) (by omega) (by omega) hI
 have e1:(N:Int) - 1=(xs.length:Int):=by omega
 have HV:=Lib.hid hv
 have HX:=Lib.hid hx1
 have HV1:=Lib.hid hv1
 have HB:=Lib.hid hback
 have HO:=Lib.hid hok
 have HL:=Lib.hid hl1
 clear hv hx1 hv1 hback hok hl1 hN R hI hq1
 go_wp2_with fail
 refine(len_act _ _ _ _).mono ?_
 rintro e w2 ⟨rfl,rfl⟩
 go_wp2_with fail
 refine hup.mono ?_
 rintro e w3 ⟨rfl,d',hS,hd,hp,hheap⟩
 have hperm:=perm_of_permIn hp (by simpa using HL.out)
 obtain⟨hq3,hx3⟩:=HB.out d' w3 hS (by rw [hd];exact HL.out.symm) fun x hx=>HO.out x (by have:=hperm.mem_iff.1 hx;simpa using this)
 have hlen:d'.toList.length=N:=by simpa using hd
 have hH3:HeapL d'.toList:=by unfold HeapL;rw [hlen];exact hheap
 have HQ3:=Lib.hid hq3
 have HX3:=Lib.hid hx3
 have HP:=Lib.hid hperm
 have HH3:=Lib.hid hH3
 clear hq3 hx3 hperm hH3 hlen hheap hp hd hS hup
 go_wp2_with fail
 go_end0
 refine⟨rfl,v1,d'.toList,HQ3.out,HH3.out,HP.out.trans ?_,HV1.out,?_,HO1.out.trans (Oth.of_chg HX3.out HQS.out HNE.out)⟩
 ·simp
 ·refine⟨HX3.out.os.trans HX.out.os,HX3.out.tape.trans HX.out.tape,HX3.out.output.trans HX.out.output,Nat.le_trans HX.out.size HX3.out.size,fun k hk hc=> ?_⟩
  rw [HX3.out.block k (Nat.lt_of_lt_of_le hk HX.out.size) fun e=> ?_]
  ·exact HX.out.block k hk hc
  ·rcases HV1.out with h | ⟨j,h,hj⟩
   ·exact hc (.inr (by rw [←h];exact e))
   ·rw [h]at e
    injection e with e
    omega
end Go.Proofs.YtkddkbpoefidpaaGreatDoor
namespace Go.Proofs.YtkddkbpoefidpaaGreatDoor
open Go.RowKit Go.Shelf Go.Sort
set_option maxRecDepth 100000 in
set_option maxHeartbeats 1000000 in
theorem heapPop_act (qb s B:Nat) (v:Value) (xs:List Ev) (w:World) (hq:QAt w qb s B v xs) (hh:HeapL xs) (h0:0<xs.length) (hl:xs.length≤1048576) :
  Calls Tryz.prog 246 #[.iface 259 (.pointer (some ⟨qb,s,none⟩))] w fun e w'=> ∃r,e = .returned r ∧
   ∃v' xs',QAt w' qb s B v' xs'∧HeapL xs'∧(xs[0]::xs').Perm xs∧v'.ownBlock=v.ownBlock∧Chg (fun k=>k=qb∨v.ownBlock=some k) w w'∧Oth w w' qb s:=by
 obtain⟨g,cap,hv,hne,R,hok,hback⟩:=hq.split h0
 have cq:=hq.cell
 obtain⟨N,hN⟩ : ∃N,N=xs.length:=⟨_,rfl⟩
 obtain⟨n,hn⟩ : ∃n,N=n+1:=⟨N - 1,by omega⟩
 rw [←hN]at hv
 rw [hv]at cq
 have hm1:=fun f=>method_len f ⟨qb,s,none⟩ (some ⟨g,0,none⟩) N cap w cq
 have hm2:=fun f=>method_swap f ⟨qb,s,none⟩ (some ⟨g,0,none⟩) N cap w cq
 have hsz:xs.toArray.size=N:=by simp [hN]
 have hswap:=swap_act g N cap xs.toArray xs.toArray 0 n w w R rfl hsz (SWK.start R.hH) (by omega) (by omega)
 rw [show ((0:Nat):Int)=(0:Int)from rfl]at hswap
 have hI:DownInv ltAct n (swp xs.toArray 0 n) 0:=by
  refine DownInv.start ?_ (by omega)
  rw [←hn,hN]
  exact hh
 have hsws:(swp xs.toArray 0 n).size=N:=by rw [size_swp];exact hsz
 have hdown:=fun w1 (S:SWK actEnc 2 w g 0 (swp xs.toArray 0 n) w1)=>down_act qb s g cap n N xs.toArray (swp xs.toArray 0 n) w w1 R cq hne S hsz hsws (by omega) (by omega) hI
 have e1:(N:Int) - 1=(n:Int):=by omega
 have hfin : ∀(w3:World) (d':Array Ev),SWK actEnc 2 w g 0 d' w3→d'.size=N→PermIn 0 n (swp xs.toArray 0 n) d'→HeapTo ltAct n d'→QAt w3 qb s B v d'.toList∧Chg (fun k=>v.ownBlock=some k) w w3∧HeapL (d'.toList.take n)∧(xs[0]::d'.toList.take n).Perm xs:=by
  intro w3 d' S hd p hheap
  have p2:PermIn 0 N xs.toArray d':=permIn_trans _ _ _ _ _ (swp_permIn _ _ _ _ _ (by omega) (by omega) (by omega) (by omega) (by omega)) (permIn_mono _ _ _ _ _ _ (Nat.le_refl _) (by omega) (by omega) p)
  have hperm:=perm_of_permIn p2 hsz
  obtain⟨q1,q2⟩:=hback d' w3 S (by omega) fun x hx=>hok x (by have:=hperm.mem_iff.1 hx;simpa using this)
  refine⟨q1,q2,?_,?_⟩
  ·unfold HeapL
   have hlt:(d'.toList.take n).length=n:=by simp;omega
   rw [hlt]
   refine hheap.sub (Nat.le_refl _) fun k hk=> ?_
   rw [get_list _ k (by omega),getElem!_pos d' k (by omega)]
   simp
  ·have hlast:d'.toList=d'.toList.take n ++ [xs[0]]:=by
    have h1:d'.toList.length=n+1:=by simp;omega
    conv=>lhs;rw [←List.take_append_drop n d'.toList]
    congr 1
    rw [List.drop_eq_getElem_cons (by omega),List.drop_eq_nil_of_le (by omega)]
    have h2:=p.2.1 n (.inr (Nat.le_refl _))
    rw [swp_get xs.toArray (by omega) (by omega)]at h2
    rw [getElem!_pos d' n (by omega)]at h2
    simp only [Array.getElem_toList]
    rw [h2]
    by_cases hn0:n=0
    ·subst hn0
     rw [if_pos rfl,get_list xs 0 h0]
    ·rw [if_neg hn0,if_pos rfl,get_list xs 0 h0]
   have h3:d'.toList.Perm xs:=by simpa using hperm
   rw [hlast]at h3
   refine List.Perm.trans ?_ h3
   simpa using List.perm_append_comm (l₁:= [xs[0]]) (l₂:=d'.toList.take n)
 have HNE:=Lib.hid hq.ne
 have HQS:=Lib.hid (cell_lt hq.cell)
 have HF:=Lib.hid hfin
 have HN:=Lib.hid hn
 have HV:=Lib.hid hv
 have hNl:N≤1048576:=by omega
 clear hfin hback hok R hI hsws hsz hn hN hv hq hh
 go_enter Tryz.func246,Tryz.ntmps246
 go_wp2_with fail
 refine(len_act _ _ _ _).mono ?_
 rintro e w2 ⟨rfl,rfl⟩
 go_wp2_with fail
 refine hswap.mono ?_
 rintro e w1 ⟨rfl,S1⟩
 have hd1:=hdown w1 S1
 clear hswap hdown S1
 go_wp2_with fail
 refine hd1.mono ?_
 rintro e w3 ⟨b,rfl,d',S3,hd,hp,hheap⟩
 obtain⟨q1,q2,q3,q4⟩:=HF.out w3 d' S3 hd hp hheap
 have hm3:=fun f=>method_pop f ⟨qb,s,none⟩ w3
 have hpop:=pop_act qb s B v d'.toList N n w3 q1 (by simpa using hd) HN.out (by simp;omega)
 have Q2:=Lib.hid q2
 have Q3:=Lib.hid q3
 have Q4:=Lib.hid q4
 clear q1 q2 q3 q4 hd hp hheap S3 hd1
 go_wp2_with fail
 refine hpop.mono ?_
 rintro e w4 ⟨r,v',rfl,q5,q6,q7,q8⟩
 have Q8:=Lib.hid q8
 clear q8
 have Q5:=Lib.hid q5
 have Q6:=Lib.hid q6
 have Q7:=Lib.hid q7
 clear q5 q6 q7 hpop
 go_wp2_with fail
 go_ret
 exact⟨_,rfl,v',_,Q5.out,Q3.out,Q4.out,Q6.out,(Q2.out.mono fun k _ h=> .inr h).trans (Q7.out.mono fun k _ h=> .inl h),(Oth.of_chg Q2.out HQS.out HNE.out).trans Q8.out⟩
set_option maxHeartbeats 2000000 in
theorem expire_act (qb s B:Nat) (at_:Int) (v:Value) (xs:List Ev) (w:World) (hq:QAt w qb s B v xs) (hh:HeapL xs) (hl:xs.length≤1048576) :
  Calls Tryz.prog 178 #[.pointer (some ⟨qb,s,none⟩),.int .i64 at_] w fun e w'=>e = .returned (.tuple #[]) ∧
   ∃v' xs',QAt w' qb s B v' xs'∧HeapL xs'∧xs'.Perm (xs.filter fun e=>decide (at_<e.to_))∧v'.ownBlock=v.ownBlock∧Chg (fun k=>k=qb∨v.ownBlock=some k) w w'∧Oth w w' qb s:=by
 have HQ:=Lib.hid hq
 have HH:=Lib.hid hh
 clear hq hh
 go_enter Tryz.func178,Tryz.ntmps178
 go_wp2_with fail
 go_loopg [] xs.length (fun gk wr=> ∃(u:Value) (ys ds:List Ev),ys.length≤gk∧Hid (QAt wr qb s B u ys)∧Hid (HeapL ys)∧Hid ((ys++ds).Perm xs)∧Hid (∀e∈ds,¬at_<e.to_)∧Hid (u.ownBlock=v.ownBlock)∧Hid (Chg (fun k=>k=qb∨v.ownBlock=some k) w wr)∧Hid (Oth w wr qb s))
 case atStart=>exact⟨v,xs,[],Nat.le_refl _,HQ.out,HH.out,(by simp:(xs ++ []).Perm xs),(fun e he=>by cases he),rfl,Chg.refl _ _,Oth.refl _ _ _⟩
 case round =>
  obtain⟨u,ys,ds,hgk,Q1,H1,P1,D1,V1,X1,Y1⟩:=hrel
  clear HQ HH
  have hend:(∀e∈ys,at_<e.to_)→ys.Perm (xs.filter fun e=>decide (at_<e.to_)):=fun hy=>by
   have h1:=P1.out.filter fun e=>decide (at_<e.to_)
   rw [List.filter_append,List.filter_eq_self.2 (fun e he=>by simpa using hy e he),List.filter_eq_nil_iff.2 (fun e he=>by simpa using D1.out e he),List.append_nil]at h1
   exact h1
  have HE:=Lib.hid hend
  clear hend
  have cq:=Q1.out.cell
  by_cases h0:0<ys.length
  ·obtain⟨g,cap,hv,hne,R,hok,_⟩:=Q1.out.split h0
   obtain⟨c0,c1⟩:=act_cell R.hH 0 (by simpa using h0)
   rw [get_list ys 0 h0]at c0 c1
   obtain⟨N,hN⟩ : ∃N,N=ys.length:=⟨_,rfl⟩
   have hNz:(0:Int)<(N:Int):=by omega
   rw [←hN]at hv
   rw [hv]at cq
   generalize hx:ys[0].to_=xt at c1
   simp only [Nat.zero_mul,Nat.zero_add]at c0 c1
   have HX:=Lib.hid hx
   have HV:=Lib.hid hv
   have HN:=Lib.hid hN
   clear hx hv hN R hok hne
   by_cases hle:xt≤at_
   ·have hpop:=heapPop_act qb s B u ys wr Q1.out H1.out h0 (by have:=P1.out.length_eq;simp at this;omega)
    have hd:decide (xt≤at_)=true:=decide_eq_true hle
    go_wp2_with fail
    refine(len_act _ _ _ _).mono ?_
    rintro e w2 ⟨rfl,rfl⟩
    go_wp2_with fail
    refine hpop.mono ?_
    rintro e w3 ⟨r,rfl,v',xs',q1,q2,q3,q4,q5,q6⟩
    have Y2:=Lib.hid q6
    clear q6
    have G1:=Lib.hid q1
    have G2:=Lib.hid q2
    have G3:=Lib.hid q3
    have G4:=Lib.hid q4
    have G5:=Lib.hid q5
    have G6:=Lib.hid hle
    clear q1 q2 q3 q4 q5 hpop hle
    go_wp2_with fail
    go_roundg xs'.length
    case measure =>
     have:=G3.out.length_eq
     simp at this
     omega
    case rel =>
     refine⟨v',xs',ds ++ [ys[0]],Nat.le_refl _,G1,G2,?_,?_,?_,?_,Y1.out.trans Y2.out⟩
     ·show List.Perm _ _
      refine List.Perm.trans ?_ P1.out
      refine List.Perm.trans ?_ (G3.out.append_right ds)
      rw [←List.append_assoc]
      simpa using List.perm_append_comm (l₁:=xs'++ds) (l₂:= [ys[0]])
     ·show ∀e∈_,_
      intro e he
      rcases List.mem_append.1 he with he | he
      ·   exact D1.out e he
      ·   rw [List.mem_singleton]at he
          subst he
          have:=HX.out
          have:=G6.out
          omega
     ·show _=_
      rw [G4.out];exact V1.out
     ·show Chg _ _ _
      rw [V1.out]at G5
      exact X1.out.trans G5.out
   ·have hd:decide (xt≤at_)=false:=decide_eq_false hle
    have G6:=Lib.hid hle
    clear hle
    go_wp2_with fail
    refine(len_act _ _ _ _).mono ?_
    rintro e w2 ⟨rfl,rfl⟩
    go_wp2_with fail
    first |go_end0 | refine bodyPost_ret (results_none rfl _ _ _) rfl ?_
    exact⟨rfl,u,ys,Q1.out,H1.out,HE.out fun e he=>by have h1:=heapL_root H1.out h0 he;have:=HX.out;have:=G6.out;omega,V1.out,X1.out,Y1.out⟩
  ·have hys:ys = []:=List.eq_nil_of_length_eq_zero (by omega)
   subst hys
   obtain⟨p,c,hv⟩ : ∃p c,u = .slice p 0 c:=by
    rcases Q1.out.own.form with ⟨rfl,_⟩ | ⟨g,cap,rfl,_⟩
    ·exact⟨_,_,rfl⟩
    ·exact⟨_,_,rfl⟩
   rw [hv]at cq
   have HV:=Lib.hid hv
   clear hv
   go_wp2_with fail
   refine(len_act _ _ _ _).mono ?_
   rintro e w2 ⟨rfl,rfl⟩
   go_wp2_with fail
   first |go_end0 | refine bodyPost_ret (results_none rfl _ _ _) rfl ?_
   exact⟨rfl,u,[],Q1.out,H1.out,HE.out (fun e he=>by cases he),V1.out,X1.out,Y1.out⟩
end Go.Proofs.YtkddkbpoefidpaaGreatDoor
