/- joined texts of a proof: RefQ, Fam, MatI, ShelfE, ConcV, CombW, Box, PairE, SubW, MatW, InnW, RefB2 -/
import Derived.Test.YtkddkbpoefidpaaGreatDoorKG19
import Derived.Test.YtkddkbpoefidpaaGreatDoorKG20
import Derived.Test.YtkddkbpoefidpaaGreatDoorKG04
import Derived.Test.YtkddkbpoefidpaaGreatDoorKG07
import Derived.Test.YtkddkbpoefidpaaGreatDoorKG14
import Derived.Shelf.Spec.SlicesGrow
import Derived.Ground.Names8Prog
import Derived.Test.YtkddkbpoefidpaaGreatDoorProg
import Derived.Test.YtkddkbpoefidpaaGreatDoorKG03
import Derived.Test.YtkddkbpoefidpaaGreatDoorKG13
import Derived.Test.YtkddkbpoefidpaaGreatDoorKG17
import Derived.Test.YtkddkbpoefidpaaGreatDoorKG12
import Derived.Test.YtkddkbpoefidpaaGreatDoorKG18
namespace Go.Proofs.YtkddkbpoefidpaaGreatDoor
open Go.RowKit
noncomputable def grpOf (l:List Tup) (r:Row):List Tup:=l.filter fun t=>eqB (tupRow t) r
open Classical in
theorem grpOf_eq (l:List Tup) (r:Row):(l.filter fun t=>decide (tupRow t=r))=grpOf l r:=by
 unfold grpOf
 refine List.filter_congr fun t _=> ?_
 unfold eqB
 rfl
theorem grpOf_take (l:List Tup) (r:Row) (k:Nat) (h:k<l.length):grpOf (l.take (k+1)) r=grpOf (l.take k) r++if eqB (tupRow l[k]) r=true then [l[k]]else []:=by
 unfold grpOf
 rw [List.take_succ_eq_append_getElem h,List.filter_append,List.filter_cons,List.filter_nil]
theorem grpOf_len (l:List Tup) (r:Row):(grpOf l r).length≤l.length:=List.length_filter_le _ _
theorem grpOf_pts (l:List Tup) (r:Row):(pts (grpOf l r)).length≤(pts l).length:=by
 refine asc_len (pts_law _).1 fun x hx=> ?_
 rw [(pts_law l).2.1]
 have h:=((pts_law (grpOf l r)).2.1 x).1 hx
 unfold bnd at h ⊢
 obtain⟨t,ht,h2⟩:=List.mem_flatMap.1 h
 exact List.mem_flatMap.2 ⟨t,(List.mem_filter.1 ht).1,h2⟩
theorem refNU_skip {R:List Row} {l:List Tup} {k:Nat} (h:0<k∧R[k - 1]?=R[k]?):refNU R l (k+1)=refNU R l k:=by
 rw [refNU,if_pos h,List.append_nil]
theorem eqB_iffQ {α:Type} (a b:α):eqB a b=true↔a=b:=by
 unfold eqB
 simp
open Classical in
theorem refNU_take {R:List Row} {l:List Tup} {k:Nat} (hk:k<R.length) (h : ¬(0<k∧R[k - 1]?=R[k]?)):refNU R l (k+1)=refNU R l k++(refLevels (grpOf l R[k])).map (tupOf R[k]):=by
 rw [refNU,if_neg h,List.getElem?_eq_getElem hk,←grpOf_eq]
 rfl
set_option maxRecDepth 100000 in
set_option maxHeartbeats 8000000 in
theorem refNormT_any (v:Value) (l:List Tup) (w:World) (hv:SliceOf Rep.tup w.cell? v l) (hl:l.length≤20000) (hpl:(pts l).length≤1000) :
  Calls Tryz.prog 64 #[v] w fun e w'=> ∃v',e = .returned v'∧SliceOf Rep.tup w'.cell? v' (normT l)∧Ext w w':=by
 obtain⟨i0,hi,hz0,hz1,hz2⟩:=info_parts infoRow
 obtain⟨i1,hi1,hz10,hz11,hz12⟩:=info_parts info_tupR
 obtain⟨p,cap,rfl,hc1,hc2,hp⟩:=hv.form
 obtain⟨N,hN⟩ : ∃N,N=l.length:=⟨_,rfl⟩
 have HV:=Lib.hid hv
 rw [←hN]at HV ⊢
 have HN:=Lib.hid hN
 have HP:=Lib.hid hp
 have hNl:N≤20000:=by omega
 have HPL:=Lib.hid hpl
 have mixed:=mixedOrd
 clear hv hN hp hc1 hc2 hl hpl
 go_enter Tryz.func64,Tryz.ntmps64
 go_wp2_with fail
 go_loopg [3,15] N (fun gk vo vi wr=> ∃(k:Nat) (u:Value),k≤N∧gk=N - k∧vi = .int .i64 k∧u=vo∧Hid (OwnOf Rep.row wr (fun k=>k<w.heap.size) w.heap.size 70 u ((l.take k).map tupRow))∧Hid (Ext w wr))
 case atStart=>exact⟨0,_,by omega,rfl,rfl,rfl,OwnOf.nil _ _ _ _ _,Ext.refl w⟩
 case round =>
  obtain⟨k,u,hk,rfl,rfl,rfl,OW,X1⟩:=hrel
  by_cases hlt:k<N
  ·have hkl:k<l.length:=by have:=HN.out;omega
   have hd:decide ((k:Int)<(N:Int))=true:=by simp;omega
   obtain⟨b,o',rfl⟩:=HP.out (by decide) (by omega)
   have hv:=HV.out
   rw [HN.out]at hv
   obtain⟨ta,tb,c0,c1,c2,c3,g0,g1,_,_⟩:=tup_at hv k hkl
   obtain⟨pa,ka,ta',_⟩:=g0.form
   obtain⟨pb,kb,tb',_⟩:=g1.form
   subst ta' tb'
   replace c0:=X1.out.at c0
   replace c1:=X1.out.at c1
   replace c2:=X1.out.at c2
   replace c3:=X1.out.at c3
   have hst:(l.take (k+1)).map tupRow=(l.take k).map tupRow ++ [tupRow l[k]]:=by rw [List.take_succ_eq_append_getElem hkl,List.map_append];rfl
   have hol:((l.take k).map tupRow).length≤20000:=by rw [List.length_map,List.length_take];omega
   obtain⟨o,ho⟩ : ∃o,o=(l.take k).map tupRow:=⟨_,rfl⟩
   rw [←ho]at OW hst hol
   have htr:tupRow l[k]=⟨l[k].vals,l[k].lin⟩:=rfl
   rw [htr]at hst
   generalize l[k]=y at c0 c1 c2 c3 g0 g1 hst
   obtain⟨vs,f,t,ln⟩:=y
   dsimp only at c0 c1 c2 c3 g0 g1 hst
   have HST:=Lib.hid hst
   have G0:=Lib.hid g0
   have G1:=Lib.hid g1
   have HOL:=Lib.hid hol
   have e0:=cell_lt c0
   clear hst g0 g1 hv hol ho htr
   go_wp2_with fail
   refine(refRow_any _ _ _ _ _ _ f t _).mono ?_
   rintro e w4 ⟨rfl,x4⟩
   have XR:=Lib.hid (((Ext.refl wr).alloc (.cells #[.slice pa vs.length ka,.int .i64 f,.int .i64 t,.slice pb ln.length kb] 96)).trans x4)
   have XA:=Lib.hid ((X1.out.trans XR.out).alloc (.cells #[.slice pa vs.length ka,.slice pb ln.length kb] 70))
   have OA:=Lib.hid (OW.out.ext (XR.out.alloc (.cells #[.slice pa vs.length ka,.slice pb ln.length kb] 70)))
   have B1:o.length+1≤maxLen:=by have:=HOL.out;unfold maxLen;omega
   have B2:(o.length+1)*48≤140737488355328:=by have:=HOL.out;omega
   clear x4 c0 c1 c2 c3 e0
   go_wp2_with (at_builtin;go_loud (refine wpList_append_one Rep.row (fun k=>k<w.heap.size) rfl _ _ 52 rfl w.heap.size 70 i0 _ 48 Tryz.underlying52 hi hz0 hz1 hz2 rfl (by decide) u o rfl (by exact OA.out) ⟨w4.heap.size,0,none⟩ 1 ⟨vs,ln⟩ [.slice pa vs.length ka,.slice pb ln.length kb] rfl (by
     have hs:Sub w.cell? (on (w4.alloc (.cells #[.slice pa vs.length ka,.slice pb ln.length kb] 70)) (avoid (fun k=>k<w.heap.size) u)):=(full_on w _ fun _ h=>h).trans (old_avoid XA.out OA.out)
     exact⟨_,_,rfl,G0.out.ext hs,G1.out.ext hs⟩) (by exact cells_new w4 [.slice pa vs.length ka,.slice pb ln.length kb] _) B1 B2 (by exact XA.out.size) ?_))
   intro g cap3 w5 own gr _
   have X5:=Lib.hid (show Ext w w5 from XA.out.grownNew gr OW.out.base)
   have OW2:=Lib.hid own
   clear own gr
   go_wp2_with fail
   go_roundg (N - (k+1))
   case measure=>omega
   case rel=>exact⟨k+1,_,by omega,rfl,by go_num,rfl,by show OwnOf _ _ _ _ _ _ _;rw [HST.out];exact OW2.out,X5.out⟩
  ·have hkN:k=N:=by omega
   have hd : ¬(k:Int)<(N:Int):=by omega
   have hall:(l.take k).map tupRow=l.map tupRow:=by rw [hkN,HN.out,List.take_length]
   rw [hall]at OW
   have SR:=Lib.hid OW.out.slice
   have hrl:(l.map tupRow).length≤20000:=by rw [List.length_map];have:=HN.out;omega
   have HRL:=Lib.hid hrl
   clear hkN hall hk hlt OW hrl
   go_wp2_with fail
   refine(ref_sort 20000 (l.map tupRow) HRL.out _ _ (by have:=HRL.out;omega) SR.out).mono ?_
   rintro e w2 ⟨v2,rfl,s2,x2⟩
   have hrl2:(sortBy cmpRow (l.map tupRow)).length≤20000:=by rw [sortBy_length];exact HRL.out
   have hnorm:=refNU_norm l
   obtain⟨R,hR⟩ : ∃R,R=sortBy cmpRow (l.map tupRow):=⟨_,rfl⟩
   rw [←hR]at s2 hrl2 hnorm
   obtain⟨pr,cr,rfl,_,_,hpr⟩:=s2.form
   obtain⟨n,hn⟩ : ∃n,n=R.length:=⟨_,rfl⟩
   rw [←hn]at s2 hpr hrl2 hnorm ⊢
   have S2:=Lib.hid s2
   have HPR:=Lib.hid hpr
   have HNR:=Lib.hid hn
   have HNORM:=Lib.hid hnorm
   have X2:=Lib.hid (X1.out.trans x2)
   replace HV:=Lib.hid (HV.out.ext X2.out.full)
   clear s2 hpr hn hnorm hR x2 X1 SR
   go_wp2_with fail
   clear hd
   go_loopg [6,7] n (fun gk vo vi wr=> ∃(k:Nat) (u:Value),k≤n∧gk=n - k∧vi = .int .i64 k∧u=vo∧Hid (OwnOf Rep.tup wr (fun k=>k<w2.heap.size) w2.heap.size 96 u (refNU R l k))∧Hid ((refNU R l k).length≤k*20000000)∧Hid (Ext w2 wr))
   case atStart=>exact⟨0,_,by omega,rfl,rfl,rfl,OwnOf.nil _ _ _ _ _,(by show 0≤_;omega),Ext.refl w2⟩
   case round =>
    obtain⟨k,u,hk,rfl,rfl,rfl,OT,HTL,X3⟩:=hrel
    by_cases hlt:k<n
    ·have hkl:k<R.length:=by have:=HNR.out;omega
     have hd:decide ((k:Int)<(n:Int))=true:=by simp;omega
     have hkI:(k:Int)<(n:Int):=by omega
     obtain⟨br,orr,rfl⟩:=HPR.out (by decide) (by omega)
     have hsv:=S2.out
     rw [HNR.out]at hsv
     obtain⟨ra,rb,d0,d1,q0,q1⟩:=row_at hsv k hkl
     obtain⟨pra,kra,rfl,_⟩:=q0.form
     obtain⟨prb,krb,rfl,_⟩:=q1.form
     obtain⟨r,hr⟩ : ∃r,r=R[k]:=⟨_,rfl⟩
     rw [←hr]at d0 d1 q0 q1
     have HR:=Lib.hid hr
     have Q0:=Lib.hid q0
     have Q1:=Lib.hid q1
     have D0:=Lib.hid (And.intro d0 d1)
     obtain⟨nra,hnra⟩ : ∃z,z=r.vals.length:=⟨_,rfl⟩
     obtain⟨nrb,hnrb⟩ : ∃z,z=r.lin.length:=⟨_,rfl⟩
     rw [←hnra]at Q0 D0
     rw [←hnrb]at Q1 D0
     have hbl:=cell_lt d0
     have HBL:=Lib.hid hbl
     clear d0 d1 q0 q1 hr hnra hnrb hsv hbl
     have HTAKE:=Lib.hid (fun(h : ¬(0<k∧R[k - 1]?=R[k]?))=>(by have h1:=refNU_take (l:=l) hkl h;rw [←HR.out]at h1;exact h1:refNU R l (k+1)=refNU R l k++(refLevels (grpOf l r)).map (tupOf r)))
     by_cases hk0:k=0
     ·have hnz0:decide ((0:Int)<(k:Int))=false:=decide_eq_false (by omega)
      have hnz1:decide (0<k)=false:=decide_eq_false (by omega)
      have hnz3 : ¬ 0<k:=by omega
      have HFRESH:=Lib.hid (show ¬(0<k∧R[k - 1]?=R[k]?)from fun h=>hnz3 h.1)
      clear hk0
      go_wp2_with fail
      go_big_region_o
      obtain⟨wl,hwl⟩ : ∃z,z=wr.drew:=⟨_,rfl⟩
      rw [←hwl]
      replace OT:=Lib.hid (show OwnOf Rep.tup wl (fun k=>k<w2.heap.size) w2.heap.size 96 u (refNU R l k)from by rw [hwl];exact OT.out.ext (Ext.refl _).drew)
      replace X3:=Lib.hid (show Ext w2 wl from by rw [hwl];exact X3.out.drew)
      clear hwl
      have HNU:=Lib.hid (HTAKE.out HFRESH.out)
      obtain⟨OL,hOL⟩ : ∃z,z=refNU R l k:=⟨_,rfl⟩
      rw [←hOL]at OT HTL HNU
      clear hOL
      go_wp2_with fail
      go_loopg [8,49] N (fun gj vg vj wr=> ∃(j:Nat) (ug:Value),j≤N∧gj=N - j∧vj = .int .i64 j∧ug=vg∧Hid (OwnOf Rep.tup wr (fun k=>k<wl.heap.size) wl.heap.size 96 ug (grpOf (l.take j) r))∧Hid (Ext wl wr))
      case atStart=>exact⟨0,_,by omega,rfl,rfl,rfl,OwnOf.nil _ _ _ _ _,Ext.refl wl⟩
      case round =>
       obtain⟨j,ug,hj,rfl,rfl,rfl,OG,XG⟩:=hrel
       by_cases hltj:j<N
       ·have hjl:j<l.length:=by have:=HN.out;omega
        have hd2:decide ((j:Int)<(N:Int))=true:=by simp;omega
        obtain⟨b,o',rfl⟩:=HP.out (by decide) (by omega)
        have hv:=HV.out
        rw [HN.out]at hv
        obtain⟨ta,tb,c0,c1,c2,c3,g0,g1,gr0,gr1⟩:=tup_at hv j hjl
        obtain⟨pa,ka,ta',_⟩:=g0.form
        obtain⟨pb,kb,tb',_⟩:=g1.form
        subst ta' tb'
        have xx:=X3.out.trans XG.out
        replace c0:=xx.at c0
        replace c1:=xx.at c1
        replace c2:=xx.at c2
        replace c3:=xx.at c3
        have hst:=grpOf_take l r j hjl
        have hgl:(grpOf (l.take j) r).length≤20000:=Nat.le_trans (grpOf_len _ _) (by rw [List.length_take];omega)
        obtain⟨G,hG⟩ : ∃G,G=grpOf (l.take j) r:=⟨_,rfl⟩
        rw [←hG]at OG hst hgl
        have G0:=Lib.hid (g0.ext X3.out.full)
        have G1:=Lib.hid (g1.ext X3.out.full)
        have GR:=Lib.hid (And.intro gr0 gr1)
        obtain⟨bq,hbq⟩ : ∃z,z=eqB (tupRow l[j]) r:=⟨_,rfl⟩
        rw [←hbq]at hst
        have htr:tupRow l[j]=⟨l[j].vals,l[j].lin⟩:=rfl
        rw [htr]at hbq
        generalize l[j]=y at c0 c1 c2 c3 G0 G1 GR hst hbq
        obtain⟨vs,f,t,ln⟩:=y
        dsimp only at c0 c1 c2 c3 G0 G1 GR hst hbq
        have HST:=Lib.hid hst
        have HBQ:=Lib.hid hbq
        have HGL:=Lib.hid hgl
        obtain⟨nv,hnv⟩ : ∃z,z=vs.length:=⟨_,rfl⟩
        obtain⟨nl,hnl⟩ : ∃z,z=ln.length:=⟨_,rfl⟩
        rw [←hnv]at c0 G0
        rw [←hnl]at c3 G1
        have e0:=cell_lt c0
        have d0:=xx.at D0.out.1
        have d1:=xx.at D0.out.2
        clear hst hbq hgl hG htr g0 g1 gr0 gr1 hv xx hnv hnl
        go_wp2_with fail
        have xn:=(Ext.refl wr).alloc (.cells #[.slice pa nv ka,.int .i64 f,.int .i64 t,.slice pb nl kb] 96)
        have b0:(wr.alloc (.cells #[.slice pa nv ka,.int .i64 f,.int .i64 t,.slice pb nl kb] 96)).cell? ⟨wr.heap.size,0,none⟩=some (.slice pa nv ka):=by go_simp
        have b1:(wr.alloc (.cells #[.slice pa nv ka,.int .i64 f,.int .i64 t,.slice pb nl kb] 96)).cell? ⟨wr.heap.size,1,none⟩=some (.int .i64 f):=by go_simp
        have b2:(wr.alloc (.cells #[.slice pa nv ka,.int .i64 f,.int .i64 t,.slice pb nl kb] 96)).cell? ⟨wr.heap.size,2,none⟩=some (.int .i64 t):=by go_simp
        have b3:(wr.alloc (.cells #[.slice pa nv ka,.int .i64 f,.int .i64 t,.slice pb nl kb] 96)).cell? ⟨wr.heap.size,3,none⟩=some (.slice pb nl kb):=by go_simp
        replace d0:=xn.at d0
        replace d1:=xn.at d1
        generalize (wr.alloc (.cells #[.slice pa nv ka,.int .i64 f,.int .i64 t,.slice pb nl kb] 96))=w8 at xn b0 b1 b2 b3 d0 d1 ⊢
        have hS0:Ext wr w8.drew∧w8.drew.cell? ⟨wr.heap.size,0,none⟩=some (.slice pa nv ka)∧w8.drew.cell? ⟨wr.heap.size,1,none⟩=some (.int .i64 f)∧w8.drew.cell? ⟨wr.heap.size,2,none⟩=some (.int .i64 t)∧w8.drew.cell? ⟨wr.heap.size,3,none⟩=some (.slice pb nl kb)∧w8.drew.cell? ⟨br,orr+k*2,none⟩=some (.slice pra nra kra)∧w8.drew.cell? ⟨br,orr+k*2+1,none⟩=some (.slice prb nrb krb):=⟨xn.drew,b0,b1,b2,b3,d0,d1⟩
        clear c0 c1 c2 c3 e0 xn b0 b1 b2 b3 d0 d1
        go_region_held3 (fun w'=>Ext wr w'∧w'.cell? ⟨wr.heap.size,0,none⟩=some (.slice pa nv ka)∧w'.cell? ⟨wr.heap.size,1,none⟩=some (.int .i64 f)∧w'.cell? ⟨wr.heap.size,2,none⟩=some (.int .i64 t)∧w'.cell? ⟨wr.heap.size,3,none⟩=some (.slice pb nl kb)∧w'.cell? ⟨br,orr+k*2,none⟩=some (.slice pra nra kra)∧w'.cell? ⟨br,orr+k*2+1,none⟩=some (.slice prb nrb krb))
         (first |with_reducible assumption | with_reducible exact keepE6 (by assumption) x5 | with_reducible exact keepE6 (by assumption) x4)
         (first |(go_at_call 51;refine(refRow_any _ _ _ _ _ _ f t _).mono ?_;rintro e w4 ⟨rfl,x4⟩) | (go_at_call 50;refine(ref_sameRow _ _ _ _ ⟨vs,ln⟩ r _ (by exact G0.out.ext (XG.out.trans (And.left ‹Ext wr _∧_›)).full) (by exact Q0.out.ext ((X3.out.trans XG.out).trans (And.left ‹Ext wr _∧_›)).full) (by exact G1.out.ext (XG.out.trans (And.left ‹Ext wr _∧_›)).full) (by exact Q1.out.ext ((X3.out.trans XG.out).trans (And.left ‹Ext wr _∧_›)).full)).mono ?_;rintro e w5 ⟨rfl,y5⟩;have x5:=y5.ext;rw [←HBQ.out]) | fail)
        all_goals
         obtain⟨xf,b0,b1,b2,b3,_,_⟩:= ‹Ext wr _∧_›
         have XF:=Lib.hid xf
         have e7:=cell_lt b0
         clear hS0 xf
         cases bq
         ·have HG2:=Lib.hid (show grpOf (l.take (j+1)) r=G from by rw [HST.out,if_neg (by decide),List.append_nil])
          go_wp2_with fail
          go_roundg (N - (j+1))
          case measure=>omega
          case rel=>exact⟨j+1,_,by omega,rfl,by go_num,rfl,by show OwnOf _ _ _ _ _ _ _;rw [HG2.out];exact OG.out.ext XF.out,XG.out.trans XF.out⟩
         ·have HG2:=Lib.hid (show grpOf (l.take (j+1)) r=G ++ [⟨vs,f,t,ln⟩]from by rw [HST.out,if_pos rfl])
          obtain⟨pu,cu,hu,_⟩:=OG.out.slice.form
          subst hu
          obtain⟨ng,hng⟩ : ∃z,z=G.length:=⟨_,rfl⟩
          rw [←hng]at OG ⊢
          have B1:G.length+1≤maxLen:=by have:=HGL.out;unfold maxLen;omega
          have B2:(G.length+1)*64≤140737488355328:=by have:=HGL.out;omega
          have XA:=Lib.hid ((XG.out.trans XF.out).alloc (.cells #[.slice pa nv ka,.int .i64 f,.int .i64 t,.slice pb nl kb] 96))
          have OA:=Lib.hid (OG.out.ext (XF.out.alloc (.cells #[.slice pa nv ka,.int .i64 f,.int .i64 t,.slice pb nl kb] 96)))
          clear hng
          go_wp2_with (at_builtin;go_loud (refine wpList_append_one Rep.tup (fun k=>k<wl.heap.size) rfl _ _ 22 rfl wl.heap.size 96 i1 _ 64 Tryz.underlying22 hi1 hz10 hz11 hz12 rfl (by decide) (.slice pu ng cu) G rfl (by exact OA.out) ⟨_,0,none⟩ 1 ⟨vs,f,t,ln⟩ [.slice pa nv ka,.int .i64 f,.int .i64 t,.slice pb nl kb] rfl (by
                have hs:=(full_on wl (fun k=>k<wl.heap.size) fun _ h=>h).trans (old_avoid XA.out OA.out)
                exact⟨_,_,rfl,G0.out.ext hs,G1.out.ext hs,GR.out.1,GR.out.2⟩) (by exact cells_new _ [.slice pa nv ka,.int .i64 f,.int .i64 t,.slice pb nl kb] _) B1 B2 (by exact XA.out.size) ?_))
          intro g c9 w9 own gr _
          have X9:=Lib.hid (show Ext wl w9 from XA.out.grownNew gr OG.out.base)
          have O9:=Lib.hid own
          clear own gr b0 b1 b2 b3 e7 B1 B2
          go_wp2_with fail
          go_roundg (N - (j+1))
          case measure=>omega
          case rel=>exact⟨j+1,_,by omega,rfl,by go_num,rfl,by show OwnOf _ _ _ _ _ _ _;rw [HG2.out];exact O9.out,X9.out⟩
       ·have hjN:j=N:=by omega
        have hd2 : ¬(j:Int)<(N:Int):=by omega
        obtain⟨wn,rfl⟩ : ∃z,z=wr:=⟨wr,rfl⟩
        have hall:l.take j=l:=by rw [hjN,HN.out,List.take_length]
        rw [hall]at OG
        have hgl:(grpOf l r).length≤20000:=Nat.le_trans (grpOf_len l r) (by have:=HN.out;omega)
        have hgp:(pts (grpOf l r)).length≤1000:=Nat.le_trans (grpOf_pts l r) HPL.out
        have hlvl:(refLevels (grpOf l r)).length≤20000000:=Nat.le_trans (refLev_len _ _ _) (Nat.mul_le_mul hgl hgp)
        have HGL:=Lib.hid (And.intro hgl hgp)
        have O2:=Lib.hid (OT.out.ext XG.out)
        have HUO:=Lib.hid (fun b hb=>(O2.out.lt b hb).2)
        obtain⟨pg,cg,hug,_⟩:=OG.out.slice.form
        subst hug
        clear hjN hall hltj hj hgl hgp
        go_wp2_with fail
        refine(refLevels_any _ (grpOf l r) _ OG.out.slice HGL.out.1 HGL.out.2).mono ?_
        rintro e w6 ⟨v6,rfl,s6,x6⟩
        obtain⟨LV,hLV⟩ : ∃LV,LV=refLevels (grpOf l r):=⟨_,rfl⟩
        rw [←hLV]at s6 HNU hlvl
        obtain⟨pn,cn,rfl,_,_,hpn⟩:=s6.form
        obtain⟨Q,hQ⟩ : ∃Q,Q=LV.length:=⟨_,rfl⟩
        rw [←hQ]at s6 hpn hlvl ⊢
        have HQ:=Lib.hid hQ
        have HPN:=Lib.hid hpn
        have HLVL:=Lib.hid hlvl
        have S6:=Lib.hid (SliceOf.flatOn flat_per (S:=fun b=>(Value.slice pn Q cn).ownBlock=some b) (s6.ext (on_sub _ _)) (fun ad n c e=>by rw [e];rfl))
        have HBN:=Lib.hid (show 0<Q→ ∀b,(Value.slice pn Q cn).ownBlock=some b→wn.heap.size≤b∧b<w6.heap.size from fun h0 b hb=>by
         obtain⟨bn,on_,rfl⟩:=hpn (by decide) h0
         injection hb with hb
         subst hb
         have h1:=(per_at s6 0 (by rw [←hQ];exact h0)).1
         exact⟨(on_some.1 h1).1,cell_lt (on_some.1 h1).2⟩)
        have O6:=Lib.hid (O2.out.ext x6)
        have X6:=Lib.hid ((X3.out.trans XG.out).trans x6)
        have hqb:Q≤20000000:=hlvl
        clear s6 hLV hQ hpn O2 OG XG x6 hlvl OT
        go_wp2_with fail
        clear hd2
        go_loopg [6,68] Q (fun gq vo vq wr=> ∃(q:Nat) (u:Value),q≤Q∧gq=Q - q∧vq = .int .i64 q∧u=vo∧Hid (OwnOf Rep.tup wr (fun k=>k<w2.heap.size) w2.heap.size 96 u (OL++(LV.take q).map (tupOf r)))∧Hid (∀b,Value.ownBlock u=some b→0<Q→ ¬(Value.slice pn Q cn).ownBlock=some b)∧Hid (SliceOf Rep.per (on wr fun b=>(Value.slice pn Q cn).ownBlock=some b) (.slice pn Q cn) LV)∧Hid (Ext w2 wr)∧Hid (w6.heap.size≤wr.heap.size))
        case atStart=>exact⟨0,_,by omega,rfl,rfl,rfl,by show OwnOf _ _ _ _ _ _ _;rw [List.take_zero,List.map_nil,List.append_nil];exact O6.out,(fun b hb h0 hs=>by have h1:=HUO.out b hb;have h2:=(HBN.out h0 b hs).1;omega),S6.out,X6.out,Nat.le_refl _⟩
        case round =>
         clear S6 O6 X6
         obtain⟨q,u,hq,rfl,rfl,rfl,OU,HNE,SN,X7,Z7⟩:=hrel
         by_cases hltq:q<Q
         ·have hql:q<LV.length:=by have:=HQ.out;omega
          have hd3:decide ((q:Int)<(Q:Int))=true:=by simp;omega
          have HBN1:=Lib.hid (fun b hb=>HBN.out (by omega) b hb)
          have HNE1:=Lib.hid (fun b hb=>HNE.out b hb (by omega))
          obtain⟨bn,on_,rfl⟩:=HPN.out (by decide) (by omega)
          have hsv:=SN.out
          rw [HQ.out]at hsv
          obtain⟨c0,c1,r0,r1⟩:=per_at hsv q hql
          replace c0:=(on_some.1 c0).2
          replace c1:=(on_some.1 c1).2
          have hstp:OL++(LV.take (q+1)).map (tupOf r)=(OL++(LV.take q).map (tupOf r)) ++ [⟨r.vals,LV[q].from_,LV[q].to_,r.lin⟩]:=by
           rw [List.take_succ_eq_append_getElem hql,List.map_append,←List.append_assoc]
           rfl
          have hol:(OL++(LV.take q).map (tupOf r)).length≤400020000000:=by
           rw [List.length_append,List.length_map,List.length_take]
           have h1:=HTL.out
           have h2:k*20000000≤20000*20000000:=Nat.mul_le_mul_right _ (by omega)
           omega
          obtain⟨T,hT⟩ : ∃T,T=OL++(LV.take q).map (tupOf r):=⟨_,rfl⟩
          rw [←hT]at OU hstp hol
          generalize LV[q]=pp at c0 c1 r0 r1 hstp
          obtain⟨pf,pt⟩:=pp
          dsimp only at c0 c1 r0 r1 hstp
          have HSTP:=Lib.hid hstp
          have HPQ:=Lib.hid (And.intro r0 r1)
          have HOL:=Lib.hid hol
          obtain⟨pu,cu,hu,_⟩:=OU.out.slice.form
          subst hu
          obtain⟨n9,hn9⟩ : ∃n,n=T.length:=⟨_,rfl⟩
          have HUL:=Lib.hid (fun b hb=>OU.out.lt b hb)
          rw [←hn9]at OU HNE1 HUL ⊢
          have HN9:=Lib.hid hn9
          have B1:T.length+1≤maxLen:=by have:=HOL.out;unfold maxLen;omega
          have B2:(T.length+1)*64≤140737488355328:=by have:=HOL.out;omega
          have e0:=cell_lt c0
          have d0:=X7.out.at D0.out.1
          have d1:=X7.out.at D0.out.2
          clear hsv hql hstp hol r0 r1 hT hn9
          go_wp2_with fail
          have xn:=(Ext.refl wr).alloc (.cells #[.int .i64 pf,.int .i64 pt] 94)
          have b0:(wr.alloc (.cells #[.int .i64 pf,.int .i64 pt] 94)).cell? ⟨wr.heap.size,0,none⟩=some (.int .i64 pf):=by go_simp
          have b1:(wr.alloc (.cells #[.int .i64 pf,.int .i64 pt] 94)).cell? ⟨wr.heap.size,1,none⟩=some (.int .i64 pt):=by go_simp
          replace d0:=xn.at d0
          replace d1:=xn.at d1
          generalize (wr.alloc (.cells #[.int .i64 pf,.int .i64 pt] 94))=w8 at xn b0 b1 d0 d1 ⊢
          have hS0:Ext w2 w8.drew∧w8.drew.cell? ⟨br,orr+k*2,none⟩=some (.slice pra nra kra)∧w8.drew.cell? ⟨br,orr+k*2+1,none⟩=some (.slice prb nrb krb)∧w8.drew.cell? ⟨wr.heap.size,0,none⟩=some (.int .i64 pf)∧w8.drew.cell? ⟨wr.heap.size,1,none⟩=some (.int .i64 pt):=⟨(X7.out.trans xn).drew,d0,d1,b0,b1⟩
          have XN:=Lib.hid xn
          have HZ8:=Lib.hid (show wr.heap.size<w8.heap.size from cell_lt b0)
          have OV:=Lib.hid (fun o=>OU.out.ext (XN.out.drew.alloc o))
          have OV2:=Lib.hid (fun o=>OU.out.ext (XN.out.alloc o).drew)
          have HDAT:=Lib.hid (fun(wz:World) (hx:Ext w2 wz) (ho:OwnOf Rep.tup wz (fun k=>k<w2.heap.size) w2.heap.size 96 (.slice pu n9 cu) T)=>(by
           have hs:=(full_on w2 (fun k=>k<w2.heap.size) fun _ h=>h).trans (old_avoid hx ho)
           exact⟨_,_,rfl,Q0.out.ext hs,Q1.out.ext hs,HPQ.out.1,HPQ.out.2⟩:Rep.tup.holds (on wz (avoid (fun k=>k<w2.heap.size) (.slice pu n9 cu))) [.slice pra nra kra,.int .i64 pf,.int .i64 pt,.slice prb nrb krb] ⟨r.vals,pf,pt,r.lin⟩))
          clear c0 c1 e0 xn b0 b1 d0 d1
          go_region_held3 (fun w'=>Ext w2 w'∧w'.cell? ⟨br,orr+k*2,none⟩=some (.slice pra nra kra)∧w'.cell? ⟨br,orr+k*2+1,none⟩=some (.slice prb nrb krb)∧w'.cell? ⟨wr.heap.size,0,none⟩=some (.int .i64 pf)∧w'.cell? ⟨wr.heap.size,1,none⟩=some (.int .i64 pt))
           (first |with_reducible assumption | with_reducible exact keepE4 (by assumption) ((Ext.refl _).alloc _))
           (first
                |(refine step_append_one Rep.tup (fun k=>k<w2.heap.size) rfl _ _ 22 rfl w2.heap.size 96 i1 _ 64 Tryz.underlying22 hi1 hz10 hz11 hz12 rfl (by decide) (.slice pu n9 cu) T rfl (by first | exact OV.out _ | exact OV2.out _) ⟨_,0,none⟩ 1 ⟨r.vals,pf,pt,r.lin⟩ [.slice pra nra kra,.int .i64 pf,.int .i64 pt,.slice prb nrb krb] rfl (by first | exact HDAT.out _ (hS0.1.alloc _) (OV.out _) | exact HDAT.out _ ((X7.out.trans XN.out).alloc _).drew (OV2.out _)) (cells_new _ [.slice pra nra kra,.int .i64 pf,.int .i64 pt,.slice prb nrb krb] _) B1 B2 (by first | exact(hS0.1.alloc _).size | exact((X7.out.trans XN.out).alloc _).drew.size) ?_;intro g9 c9 w9 own9 gr9 hat9;have K9:=keepX4 (by first | exact keepE4 hS0 ((Ext.refl _).alloc _) | exact hS0) gr9 (fun b hb=>(HUL.out b hb).1) (fun b hb=>by have h1:=HUL.out b hb;have h2:=HBL.out;exact⟨by omega,by omega,by omega,by omega⟩);have OW9:=Lib.hid own9;have GR9:=Lib.hid gr9;have HAT9:=Lib.hid hat9;clear own9)
                |fail)
          all_goals
           have X12:=Lib.hid K9.1
           clear hS0
           have SN9:=Lib.hid ((SN.out.ext ((XN.out.drew.alloc _).sub _)).ext (grown_sub GR9.out fun b hb e=>HNE1.out b e.symm hb))
           have Z9:=Lib.hid (Nat.le_trans Z7.out (Nat.le_trans (XN.out.drew.alloc (.cells #[.slice pra nra kra,.int .i64 pf,.int .i64 pt,.slice prb nrb krb] 96)).size GR9.out.size))
           have HNE9:=Lib.hid (show ∀b,(Value.slice (some ⟨g9,0,none⟩) (T.length+1) c9).ownBlock=some b→0<Q→ ¬(Value.slice (some ⟨bn,on_,none⟩) Q cn).ownBlock=some b from fun b hb _ hs=>by
                injection hb with hb
                injection hs with hs
                have hgb:g9=bn:=(show g9=b from hb).trans (show bn=b from hs).symm
                rcases HAT9.out with h | h
                ·exact HNE1.out g9 h (by rw [hgb];rfl)
                ·have h2:=(HBN1.out bn rfl).2
                 have h3:=Z7.out
                 have h4:=HZ8.out
                 try rw [alloc_size]at h
                 have h5:w8.heap.size≤g9:=by rw [h];first | exact Nat.le_refl _ | exact Nat.le_succ _ | simp
                 omega)
           go_wp2_with fail
           go_roundg (Q - (q+1))
           case measure=>omega
           case rel=>exact⟨q+1,_,by omega,rfl,by go_num,rfl,by show OwnOf _ _ _ _ _ _ _;rw [HSTP.out];exact OW9.out,HNE9.out,SN9.out,X12.out,Z9.out⟩
         ·have hqQ:q=Q:=by omega
          have hd3 : ¬(q:Int)<(Q:Int):=by omega
          have HFIN:=Lib.hid (show OL++(LV.take q).map (tupOf r)=refNU R l (k+1)from by rw [HNU.out,hqQ,HQ.out,List.take_length])
          have HTL2:=Lib.hid (show (refNU R l (k+1)).length≤(k+1)*20000000 from by
           rw [HNU.out,List.length_append,List.length_map,←HQ.out]
           have h1:=HTL.out
           have h2:=HLVL.out
           omega)
          clear hqQ
          go_wp2_with fail
          go_roundg (n - (k+1))
          case measure=>omega
          case rel=>exact⟨k+1,_,by omega,rfl,by go_num,rfl,by show OwnOf _ _ _ _ _ _ _;rw [←HFIN.out];exact OU.out,HTL2.out,X7.out⟩
     ·have hnz0:decide ((0:Int)<(k:Int))=true:=decide_eq_true (by omega)
      have hnz1:decide (0<k)=true:=decide_eq_true (by omega)
      have hnz3:0<k:=by omega
      obtain⟨m,hm⟩ : ∃m,k=m+1:=⟨k - 1,by omega⟩
      have hml:m<R.length:=by omega
      have em:(k:Int) - 1=(m:Int):=by omega
      have hwm:IntKind.i64.wrap ((k:Int) - 1)=(m:Int):=by rw [IntKind.wrap_i64];omega
      have hmn:(m:Int)<(n:Int):=by omega
      have hmn2:m<n:=by omega
      have hm0:(0:Int)≤(m:Int):=by omega
      have hwm2:IntKind.i64.wrap (m:Int)=(m:Int):=by rw [IntKind.wrap_i64];omega
      have hsv:=S2.out
      rw [HNR.out]at hsv
      obtain⟨qa,qb,l0,l1,q0,q1⟩:=row_at hsv m hml
      obtain⟨pqa,kqa,rfl,_⟩:=q0.form
      obtain⟨pqb,kqb,rfl,_⟩:=q1.form
      obtain⟨bq,hbq⟩ : ∃z,z=eqB R[m] r:=⟨_,rfl⟩
      have HEQ:=Lib.hid (show bq=true↔(0<k∧R[k - 1]?=R[k]?)from by
       rw [hbq,HR.out]
       rw [eqB_iffQ,show k - 1=m by omega,List.getElem?_eq_getElem hml,List.getElem?_eq_getElem hkl]
       constructor
       ·intro h;exact⟨hnz3,by rw [h]⟩
       ·intro h;exact Option.some.inj h.2)
      generalize R[m]=rm at l0 l1 q0 q1 hbq
      have HBQ:=Lib.hid hbq
      have G0:=Lib.hid q0
      have G1:=Lib.hid q1
      obtain⟨nqa,hnqa⟩ : ∃z,z=rm.vals.length:=⟨_,rfl⟩
      obtain⟨nqb,hnqb⟩ : ∃z,z=rm.lin.length:=⟨_,rfl⟩
      rw [←hnqa]at l0 G0
      rw [←hnqb]at l1 G1
      replace l0:=X3.out.at l0
      replace l1:=X3.out.at l1
      have d0:=X3.out.at D0.out.1
      have d1:=X3.out.at D0.out.2
      have hS0:Ext wr wr.drew∧wr.drew.cell? ⟨br,orr+m*2,none⟩=some (.slice pqa nqa kqa)∧wr.drew.cell? ⟨br,orr+m*2+1,none⟩=some (.slice pqb nqb kqb)∧wr.drew.cell? ⟨br,orr+k*2,none⟩=some (.slice pra nra kra)∧wr.drew.cell? ⟨br,orr+k*2+1,none⟩=some (.slice prb nrb krb):=⟨(Ext.refl wr).drew,l0,l1,d0,d1⟩
      clear hsv q0 q1 hbq hnqa hnqb hk0 hm l0 l1 d0 d1
      go_wp2_with fail
      go_region_held3 (fun w'=>Ext wr w'∧w'.cell? ⟨br,orr+m*2,none⟩=some (.slice pqa nqa kqa)∧w'.cell? ⟨br,orr+m*2+1,none⟩=some (.slice pqb nqb kqb)∧w'.cell? ⟨br,orr+k*2,none⟩=some (.slice pra nra kra)∧w'.cell? ⟨br,orr+k*2+1,none⟩=some (.slice prb nrb krb))
       (first |with_reducible assumption | with_reducible exact keepE4 (by assumption) x5)
       (first |(go_at_call 50;refine(ref_sameRow _ _ _ _ rm r _ (by exact G0.out.ext (X3.out.trans (And.left ‹Ext wr _∧_›)).full) (by exact Q0.out.ext (X3.out.trans (And.left ‹Ext wr _∧_›)).full) (by exact G1.out.ext (X3.out.trans (And.left ‹Ext wr _∧_›)).full) (by exact Q1.out.ext (X3.out.trans (And.left ‹Ext wr _∧_›)).full)).mono ?_;rintro e wl ⟨rfl,y5⟩;have x5:=y5.ext;rw [←HBQ.out]) | fail)
      all_goals
       have xf:=And.left ‹Ext wr _∧_›
       have OT2:=Lib.hid (OT.out.ext xf)
       have X32:=Lib.hid (X3.out.trans xf)
       clear hS0 xf
       cases bq
       ·have HFRESH:=Lib.hid (show ¬(0<k∧R[k - 1]?=R[k]?)from fun h=>absurd (HEQ.out.2 h) (by decide))
        clear OT X3
        have OT:=Lib.hid OT2.out
        have X3:=Lib.hid X32.out
        clear OT2 X32
        have HNU:=Lib.hid (HTAKE.out HFRESH.out)
        obtain⟨OL,hOL⟩ : ∃z,z=refNU R l k:=⟨_,rfl⟩
        rw [←hOL]at OT HTL HNU
        clear hOL
        go_wp2_with fail
        go_loopg [8,49] N (fun gj vg vj wr=> ∃(j:Nat) (ug:Value),j≤N∧gj=N - j∧vj = .int .i64 j∧ug=vg∧Hid (OwnOf Rep.tup wr (fun k=>k<wl.heap.size) wl.heap.size 96 ug (grpOf (l.take j) r))∧Hid (Ext wl wr))
        case atStart=>exact⟨0,_,by omega,rfl,rfl,rfl,OwnOf.nil _ _ _ _ _,Ext.refl wl⟩
        case round =>
         obtain⟨j,ug,hj,rfl,rfl,rfl,OG,XG⟩:=hrel
         by_cases hltj:j<N
         ·have hjl:j<l.length:=by have:=HN.out;omega
          have hd2:decide ((j:Int)<(N:Int))=true:=by simp;omega
          obtain⟨b,o',rfl⟩:=HP.out (by decide) (by omega)
          have hv:=HV.out
          rw [HN.out]at hv
          obtain⟨ta,tb,c0,c1,c2,c3,g0,g1,gr0,gr1⟩:=tup_at hv j hjl
          obtain⟨pa,ka,ta',_⟩:=g0.form
          obtain⟨pb,kb,tb',_⟩:=g1.form
          subst ta' tb'
          have xx:=X3.out.trans XG.out
          replace c0:=xx.at c0
          replace c1:=xx.at c1
          replace c2:=xx.at c2
          replace c3:=xx.at c3
          have hst:=grpOf_take l r j hjl
          have hgl:(grpOf (l.take j) r).length≤20000:=Nat.le_trans (grpOf_len _ _) (by rw [List.length_take];omega)
          obtain⟨G,hG⟩ : ∃G,G=grpOf (l.take j) r:=⟨_,rfl⟩
          rw [←hG]at OG hst hgl
          have G0:=Lib.hid (g0.ext X3.out.full)
          have G1:=Lib.hid (g1.ext X3.out.full)
          have GR:=Lib.hid (And.intro gr0 gr1)
          obtain⟨bq,hbq⟩ : ∃z,z=eqB (tupRow l[j]) r:=⟨_,rfl⟩
          rw [←hbq]at hst
          have htr:tupRow l[j]=⟨l[j].vals,l[j].lin⟩:=rfl
          rw [htr]at hbq
          generalize l[j]=y at c0 c1 c2 c3 G0 G1 GR hst hbq
          obtain⟨vs,f,t,ln⟩:=y
          dsimp only at c0 c1 c2 c3 G0 G1 GR hst hbq
          have HST:=Lib.hid hst
          have HBQ:=Lib.hid hbq
          have HGL:=Lib.hid hgl
          obtain⟨nv,hnv⟩ : ∃z,z=vs.length:=⟨_,rfl⟩
          obtain⟨nl,hnl⟩ : ∃z,z=ln.length:=⟨_,rfl⟩
          rw [←hnv]at c0 G0
          rw [←hnl]at c3 G1
          have e0:=cell_lt c0
          have d0:=xx.at D0.out.1
          have d1:=xx.at D0.out.2
          clear hst hbq hgl hG htr g0 g1 gr0 gr1 hv xx hnv hnl
          go_wp2_with fail
          have xn:=(Ext.refl wr).alloc (.cells #[.slice pa nv ka,.int .i64 f,.int .i64 t,.slice pb nl kb] 96)
          have b0:(wr.alloc (.cells #[.slice pa nv ka,.int .i64 f,.int .i64 t,.slice pb nl kb] 96)).cell? ⟨wr.heap.size,0,none⟩=some (.slice pa nv ka):=by go_simp
          have b1:(wr.alloc (.cells #[.slice pa nv ka,.int .i64 f,.int .i64 t,.slice pb nl kb] 96)).cell? ⟨wr.heap.size,1,none⟩=some (.int .i64 f):=by go_simp
          have b2:(wr.alloc (.cells #[.slice pa nv ka,.int .i64 f,.int .i64 t,.slice pb nl kb] 96)).cell? ⟨wr.heap.size,2,none⟩=some (.int .i64 t):=by go_simp
          have b3:(wr.alloc (.cells #[.slice pa nv ka,.int .i64 f,.int .i64 t,.slice pb nl kb] 96)).cell? ⟨wr.heap.size,3,none⟩=some (.slice pb nl kb):=by go_simp
          replace d0:=xn.at d0
          replace d1:=xn.at d1
          generalize (wr.alloc (.cells #[.slice pa nv ka,.int .i64 f,.int .i64 t,.slice pb nl kb] 96))=w8 at xn b0 b1 b2 b3 d0 d1 ⊢
          have hS0:Ext wr w8.drew∧w8.drew.cell? ⟨wr.heap.size,0,none⟩=some (.slice pa nv ka)∧w8.drew.cell? ⟨wr.heap.size,1,none⟩=some (.int .i64 f)∧w8.drew.cell? ⟨wr.heap.size,2,none⟩=some (.int .i64 t)∧w8.drew.cell? ⟨wr.heap.size,3,none⟩=some (.slice pb nl kb)∧w8.drew.cell? ⟨br,orr+k*2,none⟩=some (.slice pra nra kra)∧w8.drew.cell? ⟨br,orr+k*2+1,none⟩=some (.slice prb nrb krb):=⟨xn.drew,b0,b1,b2,b3,d0,d1⟩
          clear c0 c1 c2 c3 e0 xn b0 b1 b2 b3 d0 d1
          go_region_held3 (fun w'=>Ext wr w'∧w'.cell? ⟨wr.heap.size,0,none⟩=some (.slice pa nv ka)∧w'.cell? ⟨wr.heap.size,1,none⟩=some (.int .i64 f)∧w'.cell? ⟨wr.heap.size,2,none⟩=some (.int .i64 t)∧w'.cell? ⟨wr.heap.size,3,none⟩=some (.slice pb nl kb)∧w'.cell? ⟨br,orr+k*2,none⟩=some (.slice pra nra kra)∧w'.cell? ⟨br,orr+k*2+1,none⟩=some (.slice prb nrb krb))
           (first |with_reducible assumption | with_reducible exact keepE6 (by assumption) x5 | with_reducible exact keepE6 (by assumption) x4)
           (first |(go_at_call 51;refine(refRow_any _ _ _ _ _ _ f t _).mono ?_;rintro e w4 ⟨rfl,x4⟩) | (go_at_call 50;refine(ref_sameRow _ _ _ _ ⟨vs,ln⟩ r _ (by exact G0.out.ext (XG.out.trans (And.left ‹Ext wr _∧_›)).full) (by exact Q0.out.ext ((X3.out.trans XG.out).trans (And.left ‹Ext wr _∧_›)).full) (by exact G1.out.ext (XG.out.trans (And.left ‹Ext wr _∧_›)).full) (by exact Q1.out.ext ((X3.out.trans XG.out).trans (And.left ‹Ext wr _∧_›)).full)).mono ?_;rintro e w5 ⟨rfl,y5⟩;have x5:=y5.ext;rw [←HBQ.out]) | fail)
          all_goals
           obtain⟨xf,b0,b1,b2,b3,_,_⟩:= ‹Ext wr _∧_›
           have XF:=Lib.hid xf
           have e7:=cell_lt b0
           clear hS0 xf
           cases bq
           ·    have HG2:=Lib.hid (show grpOf (l.take (j+1)) r=G from by rw [HST.out,if_neg (by decide),List.append_nil])
                go_wp2_with fail
                go_roundg (N - (j+1))
                case measure=>omega
                case rel=>exact⟨j+1,_,by omega,rfl,by go_num,rfl,by show OwnOf _ _ _ _ _ _ _;rw [HG2.out];exact OG.out.ext XF.out,XG.out.trans XF.out⟩
           ·    have HG2:=Lib.hid (show grpOf (l.take (j+1)) r=G ++ [⟨vs,f,t,ln⟩]from by rw [HST.out,if_pos rfl])
                obtain⟨pu,cu,hu,_⟩:=OG.out.slice.form
                subst hu
                obtain⟨ng,hng⟩ : ∃z,z=G.length:=⟨_,rfl⟩
                rw [←hng]at OG ⊢
                have B1:G.length+1≤maxLen:=by have:=HGL.out;unfold maxLen;omega
                have B2:(G.length+1)*64≤140737488355328:=by have:=HGL.out;omega
                have XA:=Lib.hid ((XG.out.trans XF.out).alloc (.cells #[.slice pa nv ka,.int .i64 f,.int .i64 t,.slice pb nl kb] 96))
                have OA:=Lib.hid (OG.out.ext (XF.out.alloc (.cells #[.slice pa nv ka,.int .i64 f,.int .i64 t,.slice pb nl kb] 96)))
                clear hng
                go_wp2_with (at_builtin;go_loud (refine wpList_append_one Rep.tup (fun k=>k<wl.heap.size) rfl _ _ 22 rfl wl.heap.size 96 i1 _ 64 Tryz.underlying22 hi1 hz10 hz11 hz12 rfl (by decide) (.slice pu ng cu) G rfl (by exact OA.out) ⟨_,0,none⟩ 1 ⟨vs,f,t,ln⟩ [.slice pa nv ka,.int .i64 f,.int .i64 t,.slice pb nl kb] rfl (by
                  have hs:=(full_on wl (fun k=>k<wl.heap.size) fun _ h=>h).trans (old_avoid XA.out OA.out)
                  exact⟨_,_,rfl,G0.out.ext hs,G1.out.ext hs,GR.out.1,GR.out.2⟩) (by exact cells_new _ [.slice pa nv ka,.int .i64 f,.int .i64 t,.slice pb nl kb] _) B1 B2 (by exact XA.out.size) ?_))
                intro g c9 w9 own gr _
                have X9:=Lib.hid (show Ext wl w9 from XA.out.grownNew gr OG.out.base)
                have O9:=Lib.hid own
                clear own gr b0 b1 b2 b3 e7 B1 B2
                go_wp2_with fail
                go_roundg (N - (j+1))
                case measure=>omega
                case rel=>exact⟨j+1,_,by omega,rfl,by go_num,rfl,by show OwnOf _ _ _ _ _ _ _;rw [HG2.out];exact O9.out,X9.out⟩
         ·have hjN:j=N:=by omega
          have hd2 : ¬(j:Int)<(N:Int):=by omega
          obtain⟨wn,rfl⟩ : ∃z,z=wr:=⟨wr,rfl⟩
          have hall:l.take j=l:=by rw [hjN,HN.out,List.take_length]
          rw [hall]at OG
          have hgl:(grpOf l r).length≤20000:=Nat.le_trans (grpOf_len l r) (by have:=HN.out;omega)
          have hgp:(pts (grpOf l r)).length≤1000:=Nat.le_trans (grpOf_pts l r) HPL.out
          have hlvl:(refLevels (grpOf l r)).length≤20000000:=Nat.le_trans (refLev_len _ _ _) (Nat.mul_le_mul hgl hgp)
          have HGL:=Lib.hid (And.intro hgl hgp)
          have O2:=Lib.hid (OT.out.ext XG.out)
          have HUO:=Lib.hid (fun b hb=>(O2.out.lt b hb).2)
          obtain⟨pg,cg,hug,_⟩:=OG.out.slice.form
          subst hug
          clear hjN hall hltj hj hgl hgp
          go_wp2_with fail
          refine(refLevels_any _ (grpOf l r) _ OG.out.slice HGL.out.1 HGL.out.2).mono ?_
          rintro e w6 ⟨v6,rfl,s6,x6⟩
          obtain⟨LV,hLV⟩ : ∃LV,LV=refLevels (grpOf l r):=⟨_,rfl⟩
          rw [←hLV]at s6 HNU hlvl
          obtain⟨pn,cn,rfl,_,_,hpn⟩:=s6.form
          obtain⟨Q,hQ⟩ : ∃Q,Q=LV.length:=⟨_,rfl⟩
          rw [←hQ]at s6 hpn hlvl ⊢
          have HQ:=Lib.hid hQ
          have HPN:=Lib.hid hpn
          have HLVL:=Lib.hid hlvl
          have S6:=Lib.hid (SliceOf.flatOn flat_per (S:=fun b=>(Value.slice pn Q cn).ownBlock=some b) (s6.ext (on_sub _ _)) (fun ad n c e=>by rw [e];rfl))
          have HBN:=Lib.hid (show 0<Q→ ∀b,(Value.slice pn Q cn).ownBlock=some b→wn.heap.size≤b∧b<w6.heap.size from fun h0 b hb=>by
           obtain⟨bn,on_,rfl⟩:=hpn (by decide) h0
           injection hb with hb
           subst hb
           have h1:=(per_at s6 0 (by rw [←hQ];exact h0)).1
           exact⟨(on_some.1 h1).1,cell_lt (on_some.1 h1).2⟩)
          have O6:=Lib.hid (O2.out.ext x6)
          have X6:=Lib.hid ((X3.out.trans XG.out).trans x6)
          have hqb:Q≤20000000:=hlvl
          clear s6 hLV hQ hpn O2 OG XG x6 hlvl OT
          go_wp2_with fail
          clear hd2
          go_loopg [6,68] Q (fun gq vo vq wr=> ∃(q:Nat) (u:Value),q≤Q∧gq=Q - q∧vq = .int .i64 q∧u=vo∧Hid (OwnOf Rep.tup wr (fun k=>k<w2.heap.size) w2.heap.size 96 u (OL++(LV.take q).map (tupOf r)))∧Hid (∀b,Value.ownBlock u=some b→0<Q→ ¬(Value.slice pn Q cn).ownBlock=some b)∧Hid (SliceOf Rep.per (on wr fun b=>(Value.slice pn Q cn).ownBlock=some b) (.slice pn Q cn) LV)∧Hid (Ext w2 wr)∧Hid (w6.heap.size≤wr.heap.size))
          case atStart=>exact⟨0,_,by omega,rfl,rfl,rfl,by show OwnOf _ _ _ _ _ _ _;rw [List.take_zero,List.map_nil,List.append_nil];exact O6.out,(fun b hb h0 hs=>by have h1:=HUO.out b hb;have h2:=(HBN.out h0 b hs).1;omega),S6.out,X6.out,Nat.le_refl _⟩
          case round =>
           clear S6 O6 X6
           obtain⟨q,u,hq,rfl,rfl,rfl,OU,HNE,SN,X7,Z7⟩:=hrel
           by_cases hltq:q<Q
           ·    have hql:q<LV.length:=by have:=HQ.out;omega
                have hd3:decide ((q:Int)<(Q:Int))=true:=by simp;omega
                have HBN1:=Lib.hid (fun b hb=>HBN.out (by omega) b hb)
                have HNE1:=Lib.hid (fun b hb=>HNE.out b hb (by omega))
                obtain⟨bn,on_,rfl⟩:=HPN.out (by decide) (by omega)
                have hsv:=SN.out
                rw [HQ.out]at hsv
                obtain⟨c0,c1,r0,r1⟩:=per_at hsv q hql
                replace c0:=(on_some.1 c0).2
                replace c1:=(on_some.1 c1).2
                have hstp:OL++(LV.take (q+1)).map (tupOf r)=(OL++(LV.take q).map (tupOf r)) ++ [⟨r.vals,LV[q].from_,LV[q].to_,r.lin⟩]:=by
                 rw [List.take_succ_eq_append_getElem hql,List.map_append,←List.append_assoc]
                 rfl
                have hol:(OL++(LV.take q).map (tupOf r)).length≤400020000000:=by
                 rw [List.length_append,List.length_map,List.length_take]
                 have h1:=HTL.out
                 have h2:k*20000000≤20000*20000000:=Nat.mul_le_mul_right _ (by omega)
                 omega
                obtain⟨T,hT⟩ : ∃T,T=OL++(LV.take q).map (tupOf r):=⟨_,rfl⟩
                rw [←hT]at OU hstp hol
                generalize LV[q]=pp at c0 c1 r0 r1 hstp
                obtain⟨pf,pt⟩:=pp
                dsimp only at c0 c1 r0 r1 hstp
                have HSTP:=Lib.hid hstp
                have HPQ:=Lib.hid (And.intro r0 r1)
                have HOL:=Lib.hid hol
                obtain⟨pu,cu,hu,_⟩:=OU.out.slice.form
                subst hu
                obtain⟨n9,hn9⟩ : ∃n,n=T.length:=⟨_,rfl⟩
                have HUL:=Lib.hid (fun b hb=>OU.out.lt b hb)
                rw [←hn9]at OU HNE1 HUL ⊢
                have HN9:=Lib.hid hn9
                have B1:T.length+1≤maxLen:=by have:=HOL.out;unfold maxLen;omega
                have B2:(T.length+1)*64≤140737488355328:=by have:=HOL.out;omega
                have e0:=cell_lt c0
                have d0:=X7.out.at D0.out.1
                have d1:=X7.out.at D0.out.2
                clear hsv hql hstp hol r0 r1 hT hn9
                go_wp2_with fail
                have xn:=(Ext.refl wr).alloc (.cells #[.int .i64 pf,.int .i64 pt] 94)
                have b0:(wr.alloc (.cells #[.int .i64 pf,.int .i64 pt] 94)).cell? ⟨wr.heap.size,0,none⟩=some (.int .i64 pf):=by go_simp
                have b1:(wr.alloc (.cells #[.int .i64 pf,.int .i64 pt] 94)).cell? ⟨wr.heap.size,1,none⟩=some (.int .i64 pt):=by go_simp
                replace d0:=xn.at d0
                replace d1:=xn.at d1
                generalize (wr.alloc (.cells #[.int .i64 pf,.int .i64 pt] 94))=w8 at xn b0 b1 d0 d1 ⊢
                have hS0:Ext w2 w8.drew∧w8.drew.cell? ⟨br,orr+k*2,none⟩=some (.slice pra nra kra)∧w8.drew.cell? ⟨br,orr+k*2+1,none⟩=some (.slice prb nrb krb)∧w8.drew.cell? ⟨wr.heap.size,0,none⟩=some (.int .i64 pf)∧w8.drew.cell? ⟨wr.heap.size,1,none⟩=some (.int .i64 pt):=⟨(X7.out.trans xn).drew,d0,d1,b0,b1⟩
                have XN:=Lib.hid xn
                have HZ8:=Lib.hid (show wr.heap.size<w8.heap.size from cell_lt b0)
                have OV:=Lib.hid (fun o=>OU.out.ext (XN.out.drew.alloc o))
                have OV2:=Lib.hid (fun o=>OU.out.ext (XN.out.alloc o).drew)
                have HDAT:=Lib.hid (fun(wz:World) (hx:Ext w2 wz) (ho:OwnOf Rep.tup wz (fun k=>k<w2.heap.size) w2.heap.size 96 (.slice pu n9 cu) T)=>(by
                 have hs:=(full_on w2 (fun k=>k<w2.heap.size) fun _ h=>h).trans (old_avoid hx ho)
                 exact⟨_,_,rfl,Q0.out.ext hs,Q1.out.ext hs,HPQ.out.1,HPQ.out.2⟩:Rep.tup.holds (on wz (avoid (fun k=>k<w2.heap.size) (.slice pu n9 cu))) [.slice pra nra kra,.int .i64 pf,.int .i64 pt,.slice prb nrb krb] ⟨r.vals,pf,pt,r.lin⟩))
                clear c0 c1 e0 xn b0 b1 d0 d1
                go_region_held3 (fun w'=>Ext w2 w'∧w'.cell? ⟨br,orr+k*2,none⟩=some (.slice pra nra kra)∧w'.cell? ⟨br,orr+k*2+1,none⟩=some (.slice prb nrb krb)∧w'.cell? ⟨wr.heap.size,0,none⟩=some (.int .i64 pf)∧w'.cell? ⟨wr.heap.size,1,none⟩=some (.int .i64 pt))
                 (first |with_reducible assumption | with_reducible exact keepE4 (by assumption) ((Ext.refl _).alloc _))
                 (first
                  |(refine step_append_one Rep.tup (fun k=>k<w2.heap.size) rfl _ _ 22 rfl w2.heap.size 96 i1 _ 64 Tryz.underlying22 hi1 hz10 hz11 hz12 rfl (by decide) (.slice pu n9 cu) T rfl (by first | exact OV.out _ | exact OV2.out _) ⟨_,0,none⟩ 1 ⟨r.vals,pf,pt,r.lin⟩ [.slice pra nra kra,.int .i64 pf,.int .i64 pt,.slice prb nrb krb] rfl (by first | exact HDAT.out _ (hS0.1.alloc _) (OV.out _) | exact HDAT.out _ ((X7.out.trans XN.out).alloc _).drew (OV2.out _)) (cells_new _ [.slice pra nra kra,.int .i64 pf,.int .i64 pt,.slice prb nrb krb] _) B1 B2 (by first | exact(hS0.1.alloc _).size | exact((X7.out.trans XN.out).alloc _).drew.size) ?_;intro g9 c9 w9 own9 gr9 hat9;have K9:=keepX4 (by first | exact keepE4 hS0 ((Ext.refl _).alloc _) | exact hS0) gr9 (fun b hb=>(HUL.out b hb).1) (fun b hb=>by have h1:=HUL.out b hb;have h2:=HBL.out;exact⟨by omega,by omega,by omega,by omega⟩);have OW9:=Lib.hid own9;have GR9:=Lib.hid gr9;have HAT9:=Lib.hid hat9;clear own9)
                  |fail)
                all_goals
                 have X12:=Lib.hid K9.1
                 clear hS0
                 have SN9:=Lib.hid ((SN.out.ext ((XN.out.drew.alloc _).sub _)).ext (grown_sub GR9.out fun b hb e=>HNE1.out b e.symm hb))
                 have Z9:=Lib.hid (Nat.le_trans Z7.out (Nat.le_trans (XN.out.drew.alloc (.cells #[.slice pra nra kra,.int .i64 pf,.int .i64 pt,.slice prb nrb krb] 96)).size GR9.out.size))
                 have HNE9:=Lib.hid (show ∀b,(Value.slice (some ⟨g9,0,none⟩) (T.length+1) c9).ownBlock=some b→0<Q→ ¬(Value.slice (some ⟨bn,on_,none⟩) Q cn).ownBlock=some b from fun b hb _ hs=>by
                  injection hb with hb
                  injection hs with hs
                  have hgb:g9=bn:=(show g9=b from hb).trans (show bn=b from hs).symm
                  rcases HAT9.out with h | h
                  ·exact HNE1.out g9 h (by rw [hgb];rfl)
                  ·have h2:=(HBN1.out bn rfl).2
                   have h3:=Z7.out
                   have h4:=HZ8.out
                   try rw [alloc_size]at h
                   have h5:w8.heap.size≤g9:=by rw [h];first | exact Nat.le_refl _ | exact Nat.le_succ _ | simp
                   omega)
                 go_wp2_with fail
                 go_roundg (Q - (q+1))
                 case measure=>omega
                 case rel=>exact⟨q+1,_,by omega,rfl,by go_num,rfl,by show OwnOf _ _ _ _ _ _ _;rw [HSTP.out];exact OW9.out,HNE9.out,SN9.out,X12.out,Z9.out⟩
           ·    have hqQ:q=Q:=by omega
                have hd3 : ¬(q:Int)<(Q:Int):=by omega
                have HFIN:=Lib.hid (show OL++(LV.take q).map (tupOf r)=refNU R l (k+1)from by rw [HNU.out,hqQ,HQ.out,List.take_length])
                have HTL2:=Lib.hid (show (refNU R l (k+1)).length≤(k+1)*20000000 from by
                 rw [HNU.out,List.length_append,List.length_map,←HQ.out]
                 have h1:=HTL.out
                 have h2:=HLVL.out
                 omega)
                clear hqQ
                go_wp2_with fail
                go_roundg (n - (k+1))
                case measure=>omega
                case rel=>exact⟨k+1,_,by omega,rfl,by go_num,rfl,by show OwnOf _ _ _ _ _ _ _;rw [←HFIN.out];exact OU.out,HTL2.out,X7.out⟩
       ·have HSK:=Lib.hid (refNU_skip (R:=R) (l:=l) (HEQ.out.1 rfl))
        go_wp2_with fail
        go_roundg (n - (k+1))
        case measure=>omega
        case rel=>exact⟨k+1,_,by omega,rfl,by go_num,rfl,by show OwnOf _ _ _ _ _ _ _;rw [HSK.out];exact OT2.out,(by show (refNU R l (k+1)).length≤_;rw [HSK.out];exact Nat.le_trans HTL.out (Nat.mul_le_mul_right _ (Nat.le_succ k))),X32.out⟩
    ·have hkn:k=n:=by omega
     have hd : ¬(k:Int)<(n:Int):=by omega
     have HF:=Lib.hid (show refNU R l k=normT l from by rw [hkn];exact HNORM.out)
     clear hkn
     go_wp2_with fail
     go_ret
     exact⟨u,rfl,by rw [←HF.out];exact OT.out.slice,X2.out.trans X3.out⟩
end Go.Proofs.YtkddkbpoefidpaaGreatDoor
namespace Go.Proofs.YtkddkbpoefidpaaGreatDoor
open Go.RowKit
def updF {α:Type} (f:Nat→α) (i:Nat) (v:α):Nat→α:=fun j=>if j=i then v else f j
structure Fam {α:Type} (R:Rep α) (w:World) (S:Nat→Prop) (base:Nat) (e:TypeId) (n:Nat) (f:Nat→Value) (xs:Nat→List α):Prop where
 own : ∀i,i<n→OwnOf R w S base e (f i) (xs i)
 ap : ∀i j,i<n→j<n→i≠j→Apart (f i) (f j)
section
variable {α:Type} {R:Rep α} {w w':World} {S:Nat→Prop} {base:Nat} {e:TypeId} {n:Nat} {f:Nat→Value} {xs:Nat→List α}
end
def Off (f:Nat→Value) (n pb:Nat) (k:Nat):Prop:=k≠pb∧ ∀i,i<n→(f i).ownBlock≠some k
end Go.Proofs.YtkddkbpoefidpaaGreatDoor
namespace Go.Proofs.YtkddkbpoefidpaaGreatDoor
open Go.RowKit
structure MInv (w:World) (pb n base:Nat) (T1 T2:TypeId) (f:Nat→Value) (u:Value) (js:List Tup) (ps:Nat→List Per):Prop where
 fam:Fam Rep.per w (fun _=>False) base T1 n f ps
 out:OwnOf Rep.tup w (Off f n pb) base T2 u js
 cell : ∀i,i<n→w.cell? ⟨pb,i,none⟩=some (f i)
 free : ∀i,i<n→w.frozen? ⟨pb,i,none⟩=false
 ap : ∀i,i<n→Apart u (f i)
 lo:pb<base
 hi:base≤w.heap.size
section
variable {w w':World} {pb n base:Nat} {T1 T2:TypeId} {f:Nat→Value} {u:Value} {js:List Tup} {ps:Nat→List Per}
end
def joinUpto (tr:List Val→Bool) (a b:List Tup) (L:List Pair) (k:Nat):List Tup:=((L.take k).map (pairT a b)).filter fun t=>tr t.vals
def partUpto (tr:List Val→Bool) (a b:List Tup) (L:List Pair) (k i:Nat):List Per:=((L.take k).filter fun p=>decide (p.a=i)&&tr (pairT a b p).vals).map fun p=>⟨p.from_,p.to_⟩
end Go.Proofs.YtkddkbpoefidpaaGreatDoor
namespace Go.Proofs
open Go.Shelf
def Tryz.growVal_ren:Go.Shelf.Ren:=⟨fun | 4=>131 | n=>n,fun | 22=>68 | 25=>73 | 3=>3 | 4=>4 | 9=>9 | 20=>20 | 0=>0 | n=>n,fun | n=>n⟩
def Tryz.growTup_ren:Go.Shelf.Ren:=⟨fun | 4=>128 | n=>n,fun | 22=>22 | 25=>96 | 3=>3 | 4=>4 | 9=>9 | 20=>20 | 0=>0 | n=>n,fun | n=>n⟩
end Go.Proofs
namespace Go.Proofs.YtkddkbpoefidpaaGreatDoor
open Go.RowKit Go.Shelf
end Go.Proofs.YtkddkbpoefidpaaGreatDoor
namespace Go.Proofs.YtkddkbpoefidpaaGreatDoor
open Go.RowKit
end Go.Proofs.YtkddkbpoefidpaaGreatDoor
namespace Go.Proofs.YtkddkbpoefidpaaGreatDoor
open Go.RowKit
structure TupBox (w0 W:World) (nb:Nat) (u0 u3:Value) (f t:Int) (vs:List Val) (ls:List Int):Prop where
 c0:W.cell? ⟨nb,0,none⟩=some u0
 c1:W.cell? ⟨nb,1,none⟩=some (.int .i64 f)
 c2:W.cell? ⟨nb,2,none⟩=some (.int .i64 t)
 c3:W.cell? ⟨nb,3,none⟩=some u3
 sv:SliceOf Rep.val (on W (fun k=>k≠nb∧w0.heap.size≤k)) u0 vs
 sl:SliceOf Rep.int (on W (fun k=>k≠nb∧w0.heap.size≤k)) u3 ls
 ext:Ext w0 W
 lo:w0.heap.size≤nb
section
variable {w0 w1 w4:World} {u0 u3:Value} {f t:Int} {vs:List Val} {ls:List Int} {z0 z1 z2 z3:Value} {T:TypeId}
end
end Go.Proofs.YtkddkbpoefidpaaGreatDoor
namespace Go.Proofs.YtkddkbpoefidpaaGreatDoor
open Go.RowKit Go.Shelf Go.Sort
end Go.Proofs.YtkddkbpoefidpaaGreatDoor
namespace Go.Proofs.YtkddkbpoefidpaaGreatDoor
open Go.RowKit
def subUpto (A B:List Per) (k:Nat):List Per:=(A.take k).flatMap fun p=>subP1 p.to_ p.from_ B
end Go.Proofs.YtkddkbpoefidpaaGreatDoor
namespace Go.Proofs.YtkddkbpoefidpaaGreatDoor
open Go.RowKit
def MatPost (w:World) (n:Nat) (js:List Tup) (ps:Nat→List Per) (e:Ending) (w':World):Prop :=
 ∃u pb f S base,e = .returned (.tuple #[u,.slice (some ⟨pb,0,none⟩) n n])∧w.heap.size≤base∧OwnOf Rep.tup w' S base 96 u js∧MInv w' pb n base 94 96 f u js ps∧Ext w w'
end Go.Proofs.YtkddkbpoefidpaaGreatDoor
namespace Go.Proofs.YtkddkbpoefidpaaGreatDoor
open Go.RowKit
def fewT (l:List Tup):Prop:= ∀t∈l,t.vals.length≤1000∧(∀x∈t.vals,x.s.size≤1048576)∧t.lin.length≤1000
end Go.Proofs.YtkddkbpoefidpaaGreatDoor
namespace Go.Proofs.YtkddkbpoefidpaaGreatDoor
open Go.RowKit
theorem binUpto_bnd (G:Int→List Row) (P:List Int) (k:Nat) (hk:k≤P.length - 1) : ∀x∈bnd (binUpto G P k),x∈P:=by
 induction k with
 |zero=>intro x hx;cases hx
 |succ k ih =>
  intro x hx
  rw [binUpto,bnd_append]at hx
  rcases List.mem_append.1 hx with hx | hx
  ·exact ih (by omega) x hx
  ·unfold bnd at hx
   obtain⟨t,ht,h2⟩:=List.mem_flatMap.1 hx
   obtain⟨r,_,rfl⟩:=List.mem_map.1 ht
   split at h2
   ·simp only [List.mem_cons,List.not_mem_nil,or_false]at h2
    rcases h2 with rfl | rfl
    ·show P[k]! ∈P
     rw [getElem!_pos P k (by omega)];exact List.getElem_mem _
    ·show P[k+1]! ∈P
     rw [getElem!_pos P (k+1) (by omega)];exact List.getElem_mem _
   ·cases h2
theorem binUpto_len (G:Int→List Row) (P:List Int) (c:Nat) (hG : ∀x,(G x).length≤c) (k:Nat):(binUpto G P k).length≤k*c:=by
 induction k with
 |zero=>exact Nat.zero_le _
 |succ k ih =>
  rw [binUpto,List.length_append,List.length_map,Nat.succ_mul]
  have:=hG P[k]!
  omega
theorem slice_le (l:List Tup) (x:Int):(sortBy cmpRow (sliceRows l x)).length≤l.length:=by
 rw [sortBy_length];unfold sliceRows;rw [List.length_map];exact List.length_filter_le _ _
theorem slice_fitJ {l:List Tup} (h:fewT l) (x:Int):fitJ (sortBy cmpRow (sliceRows l x)):=fun r hr=>by
 have hr:=(sortBy_perm _ _).mem_iff.1 hr
 unfold sliceRows at hr
 obtain⟨t,ht,rfl⟩:=List.mem_map.1 hr
 have:=h t (List.mem_filter.1 ht).1
 exact⟨this.1,this.2.2⟩
noncomputable def binG (tr:List Val→Bool) (W:Int) (a b:List Tup) (x:Int):List Row:=refJ tr W (sortBy cmpRow (sliceRows a x)) (sortBy cmpRow (sliceRows b x))
theorem keepP2 {W wa wb:World} {b1 b2 o1 o2:Nat} {v1 v2:Value} {row:Option Nat}
  (h:Ext W wa∧wa.cell? ⟨b1,o1,none⟩=some v1∧wa.cell? ⟨b2,o2,none⟩=some v2) (gr:wa.grownBy wb row) (hr : ∀k,row=some k→W.heap.size≤k) (hb : ∀k,row=some k→k≠b1∧k≠b2) :
  Ext W wb∧wb.cell? ⟨b1,o1,none⟩=some v1∧wb.cell? ⟨b2,o2,none⟩=some v2 :=
 ⟨ext_grown h.1 gr hr,cell_grown gr h.2.1 fun k hk=>(hb k hk).1,cell_grown gr h.2.2 fun k hk=>(hb k hk).2⟩
end Go.Proofs.YtkddkbpoefidpaaGreatDoor
