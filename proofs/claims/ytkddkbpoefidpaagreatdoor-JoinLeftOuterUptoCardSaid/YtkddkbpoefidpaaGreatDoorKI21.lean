/- joined texts of a proof: RefQ, Fam, MatI, ShelfE -/
import Derived.Test.YtkddkbpoefidpaaGreatDoorKI19
import Derived.Test.YtkddkbpoefidpaaGreatDoorKI20
import Derived.Test.YtkddkbpoefidpaaGreatDoorKI06
import Derived.Test.YtkddkbpoefidpaaGreatDoorKI09
import Derived.Test.YtkddkbpoefidpaaGreatDoorKI05
import Derived.Shelf.Spec.SlicesGrow
import Derived.Ground.Names8Prog
import Derived.Test.YtkddkbpoefidpaaGreatDoorProg
namespace Go.Proofs.YtkddkbpoefidpaaGreatDoor
open Go.RowKit
noncomputable def grpOf (l:List Tup) (r:Row):List Tup:=l.filter fun t=>eqB (tupRow t) r
open Classical in
theorem grpOf_eq (l:List Tup) (r:Row):(l.filter fun t=>decide (tupRow t=r))=grpOf l r:=by
 unfold grpOf
 refine List.filter_congr fun t _=> ?_
 unfold eqB
 rfl
theorem grpOf_take (l:List Tup) (r:Row) (k:Nat) (h:k<l.length):grpOf (l.take (k+1)) r=grpOf (l.take k) r++if eqB (tupRow l[k]) r=true then [l[k]]else []:=by
 unfold grpOf
 rw [List.take_succ_eq_append_getElem h,List.filter_append,List.filter_cons,List.filter_nil]
theorem grpOf_len (l:List Tup) (r:Row):(grpOf l r).length≤l.length:=List.length_filter_le _ _
theorem grpOf_pts (l:List Tup) (r:Row):(pts (grpOf l r)).length≤(pts l).length:=by
 refine asc_len (pts_law _).1 fun x hx=> ?_
 rw [(pts_law l).2.1]
 have h:=((pts_law (grpOf l r)).2.1 x).1 hx
 unfold bnd at h ⊢
 obtain⟨t,ht,h2⟩:=List.mem_flatMap.1 h
 exact List.mem_flatMap.2 ⟨t,(List.mem_filter.1 ht).1,h2⟩
theorem refNU_skip {R:List Row} {l:List Tup} {k:Nat} (h:0<k∧R[k - 1]?=R[k]?):refNU R l (k+1)=refNU R l k:=by
 rw [refNU,if_pos h,List.append_nil]
theorem eqB_iffQ {α:Type} (a b:α):eqB a b=true↔a=b:=by
 unfold eqB
 simp
open Classical in
theorem refNU_take {R:List Row} {l:List Tup} {k:Nat} (hk:k<R.length) (h : ¬(0<k∧R[k - 1]?=R[k]?)):refNU R l (k+1)=refNU R l k++(refLevels (grpOf l R[k])).map (tupOf R[k]):=by
 rw [refNU,if_neg h,List.getElem?_eq_getElem hk,←grpOf_eq]
 rfl
set_option maxRecDepth 100000 in
set_option maxHeartbeats 8000000 in
theorem refNormT_any (v:Value) (l:List Tup) (w:World) (hv:SliceOf Rep.tup w.cell? v l) (hl:l.length≤20000) (hpl:(pts l).length≤1000) :
  Calls Tryz.prog 64 #[v] w fun e w'=> ∃v',e = .returned v'∧SliceOf Rep.tup w'.cell? v' (normT l)∧Ext w w':=by
 obtain⟨i0,hi,hz0,hz1,hz2⟩:=info_parts infoRow
 obtain⟨i1,hi1,hz10,hz11,hz12⟩:=info_parts info_tupR
 obtain⟨p,cap,rfl,hc1,hc2,hp⟩:=hv.form
 obtain⟨N,hN⟩ : ∃N,N=l.length:=⟨_,rfl⟩
 have HV:=Lib.hid hv
 rw [←hN]at HV ⊢
 have HN:=Lib.hid hN
 have HP:=Lib.hid hp
 have hNl:N≤20000:=by omega
 have HPL:=Lib.hid hpl
 have mixed:=mixedOrd
 clear hv hN hp hc1 hc2 hl hpl
 go_enter Tryz.func64,Tryz.ntmps64
 go_wp2_with fail
 go_loopg [3,15] N (fun gk vo vi wr=> ∃(k:Nat) (u:Value),k≤N∧gk=N - k∧vi = .int .i64 k∧u=vo∧Hid (OwnOf Rep.row wr (fun k=>k<w.heap.size) w.heap.size 70 u ((l.take k).map tupRow))∧Hid (Ext w wr))
 case atStart=>exact⟨0,_,by omega,rfl,rfl,rfl,OwnOf.nil _ _ _ _ _,Ext.refl w⟩
 case round =>
  obtain⟨k,u,hk,rfl,rfl,rfl,OW,X1⟩:=hrel
  by_cases hlt:k<N
  ·have hkl:k<l.length:=by have:=HN.out;omega
   have hd:decide ((k:Int)<(N:Int))=true:=by simp;omega
   obtain⟨b,o',rfl⟩:=HP.out (by decide) (by omega)
   have hv:=HV.out
   rw [HN.out]at hv
   obtain⟨ta,tb,c0,c1,c2,c3,g0,g1,_,_⟩:=tup_at hv k hkl
   obtain⟨pa,ka,ta',_⟩:=g0.form
   obtain⟨pb,kb,tb',_⟩:=g1.form
   subst ta' tb'
   replace c0:=X1.out.at c0
   replace c1:=X1.out.at c1
   replace c2:=X1.out.at c2
   replace c3:=X1.out.at c3
   have hst:(l.take (k+1)).map tupRow=(l.take k).map tupRow ++ [tupRow l[k]]:=by rw [List.take_succ_eq_append_getElem hkl,List.map_append];rfl
   have hol:((l.take k).map tupRow).length≤20000:=by rw [List.length_map,List.length_take];omega
   obtain⟨o,ho⟩ : ∃o,o=(l.take k).map tupRow:=⟨_,rfl⟩
   rw [←ho]at OW hst hol
   have htr:tupRow l[k]=⟨l[k].vals,l[k].lin⟩:=rfl
   rw [htr]at hst
   generalize l[k]=y at c0 c1 c2 c3 g0 g1 hst
   obtain⟨vs,f,t,ln⟩:=y
   dsimp only at c0 c1 c2 c3 g0 g1 hst
   have HST:=Lib.hid hst
   have G0:=Lib.hid g0
   have G1:=Lib.hid g1
   have HOL:=Lib.hid hol
   have e0:=cell_lt c0
   clear hst g0 g1 hv hol ho htr
   go_wp2_with fail
   refine(refRow_any _ _ _ _ _ _ f t _).mono ?_
   rintro e w4 ⟨rfl,x4⟩
   have XR:=Lib.hid (((Ext.refl wr).alloc (.cells #[.slice pa vs.length ka,.int .i64 f,.int .i64 t,.slice pb ln.length kb] 96)).trans x4)
   have XA:=Lib.hid ((X1.out.trans XR.out).alloc (.cells #[.slice pa vs.length ka,.slice pb ln.length kb] 70))
   have OA:=Lib.hid (OW.out.ext (XR.out.alloc (.cells #[.slice pa vs.length ka,.slice pb ln.length kb] 70)))
   have B1:o.length+1≤maxLen:=by have:=HOL.out;unfold maxLen;omega
   have B2:(o.length+1)*48≤140737488355328:=by have:=HOL.out;omega
   clear x4 c0 c1 c2 c3 e0
   go_wp2_with (at_builtin;go_loud (refine wpList_append_one Rep.row (fun k=>k<w.heap.size) rfl _ _ 52 rfl w.heap.size 70 i0 _ 48 Tryz.underlying52 hi hz0 hz1 hz2 rfl (by decide) u o rfl (by exact OA.out) ⟨w4.heap.size,0,none⟩ 1 ⟨vs,ln⟩ [.slice pa vs.length ka,.slice pb ln.length kb] rfl (by
     have hs:Sub w.cell? (on (w4.alloc (.cells #[.slice pa vs.length ka,.slice pb ln.length kb] 70)) (avoid (fun k=>k<w.heap.size) u)):=(full_on w _ fun _ h=>h).trans (old_avoid XA.out OA.out)
     exact⟨_,_,rfl,G0.out.ext hs,G1.out.ext hs⟩) (by exact cells_new w4 [.slice pa vs.length ka,.slice pb ln.length kb] _) B1 B2 (by exact XA.out.size) ?_))
   intro g cap3 w5 own gr _
   have X5:=Lib.hid (show Ext w w5 from XA.out.grownNew gr OW.out.base)
   have OW2:=Lib.hid own
   clear own gr
   go_wp2_with fail
   go_roundg (N - (k+1))
   case measure=>omega
   case rel=>exact⟨k+1,_,by omega,rfl,by go_num,rfl,by show OwnOf _ _ _ _ _ _ _;rw [HST.out];exact OW2.out,X5.out⟩
  ·have hkN:k=N:=by omega
   have hd : ¬(k:Int)<(N:Int):=by omega
   have hall:(l.take k).map tupRow=l.map tupRow:=by rw [hkN,HN.out,List.take_length]
   rw [hall]at OW
   have SR:=Lib.hid OW.out.slice
   have hrl:(l.map tupRow).length≤20000:=by rw [List.length_map];have:=HN.out;omega
   have HRL:=Lib.hid hrl
   clear hkN hall hk hlt OW hrl
   go_wp2_with fail
   refine(ref_sort 20000 (l.map tupRow) HRL.out _ _ (by have:=HRL.out;omega) SR.out).mono ?_
   rintro e w2 ⟨v2,rfl,s2,x2⟩
   have hrl2:(sortBy cmpRow (l.map tupRow)).length≤20000:=by rw [sortBy_length];exact HRL.out
   have hnorm:=refNU_norm l
   obtain⟨R,hR⟩ : ∃R,R=sortBy cmpRow (l.map tupRow):=⟨_,rfl⟩
   rw [←hR]at s2 hrl2 hnorm
   obtain⟨pr,cr,rfl,_,_,hpr⟩:=s2.form
   obtain⟨n,hn⟩ : ∃n,n=R.length:=⟨_,rfl⟩
   rw [←hn]at s2 hpr hrl2 hnorm ⊢
   have S2:=Lib.hid s2
   have HPR:=Lib.hid hpr
   have HNR:=Lib.hid hn
   have HNORM:=Lib.hid hnorm
   have X2:=Lib.hid (X1.out.trans x2)
   replace HV:=Lib.hid (HV.out.ext X2.out.full)
   clear s2 hpr hn hnorm hR x2 X1 SR
   go_wp2_with fail
   clear hd
   go_loopg [6,7] n (fun gk vo vi wr=> ∃(k:Nat) (u:Value),k≤n∧gk=n - k∧vi = .int .i64 k∧u=vo∧Hid (OwnOf Rep.tup wr (fun k=>k<w2.heap.size) w2.heap.size 96 u (refNU R l k))∧Hid ((refNU R l k).length≤k*20000000)∧Hid (Ext w2 wr))
   case atStart=>exact⟨0,_,by omega,rfl,rfl,rfl,OwnOf.nil _ _ _ _ _,(by show 0≤_;omega),Ext.refl w2⟩
   case round =>
    obtain⟨k,u,hk,rfl,rfl,rfl,OT,HTL,X3⟩:=hrel
    by_cases hlt:k<n
    ·have hkl:k<R.length:=by have:=HNR.out;omega
     have hd:decide ((k:Int)<(n:Int))=true:=by simp;omega
     have hkI:(k:Int)<(n:Int):=by omega
     obtain⟨br,orr,rfl⟩:=HPR.out (by decide) (by omega)
     have hsv:=S2.out
     rw [HNR.out]at hsv
     obtain⟨ra,rb,d0,d1,q0,q1⟩:=row_at hsv k hkl
     obtain⟨pra,kra,rfl,_⟩:=q0.form
     obtain⟨prb,krb,rfl,_⟩:=q1.form
     obtain⟨r,hr⟩ : ∃r,r=R[k]:=⟨_,rfl⟩
     rw [←hr]at d0 d1 q0 q1
     have HR:=Lib.hid hr
     have Q0:=Lib.hid q0
     have Q1:=Lib.hid q1
     have D0:=Lib.hid (And.intro d0 d1)
     obtain⟨nra,hnra⟩ : ∃z,z=r.vals.length:=⟨_,rfl⟩
     obtain⟨nrb,hnrb⟩ : ∃z,z=r.lin.length:=⟨_,rfl⟩
     rw [←hnra]at Q0 D0
     rw [←hnrb]at Q1 D0
     have hbl:=cell_lt d0
     have HBL:=Lib.hid hbl
     clear d0 d1 q0 q1 hr hnra hnrb hsv hbl
     have HTAKE:=Lib.hid (fun(h : ¬(0<k∧R[k - 1]?=R[k]?))=>(by have h1:=refNU_take (l:=l) hkl h;rw [←HR.out]at h1;exact h1:refNU R l (k+1)=refNU R l k++(refLevels (grpOf l r)).map (tupOf r)))
     by_cases hk0:k=0
     ·have hnz0:decide ((0:Int)<(k:Int))=false:=decide_eq_false (by omega)
      have hnz1:decide (0<k)=false:=decide_eq_false (by omega)
      have hnz3 : ¬ 0<k:=by omega
      have HFRESH:=Lib.hid (show ¬(0<k∧R[k - 1]?=R[k]?)from fun h=>hnz3 h.1)
      clear hk0
      go_wp2_with fail
      go_big_region_o
      obtain⟨wl,hwl⟩ : ∃z,z=wr.drew:=⟨_,rfl⟩
      rw [←hwl]
      replace OT:=Lib.hid (show OwnOf Rep.tup wl (fun k=>k<w2.heap.size) w2.heap.size 96 u (refNU R l k)from by rw [hwl];exact OT.out.ext (Ext.refl _).drew)
      replace X3:=Lib.hid (show Ext w2 wl from by rw [hwl];exact X3.out.drew)
      clear hwl
      have HNU:=Lib.hid (HTAKE.out HFRESH.out)
      obtain⟨OL,hOL⟩ : ∃z,z=refNU R l k:=⟨_,rfl⟩
      rw [←hOL]at OT HTL HNU
      clear hOL
      go_wp2_with fail
      go_loopg [8,49] N (fun gj vg vj wr=> ∃(j:Nat) (ug:Value),j≤N∧gj=N - j∧vj = .int .i64 j∧ug=vg∧Hid (OwnOf Rep.tup wr (fun k=>k<wl.heap.size) wl.heap.size 96 ug (grpOf (l.take j) r))∧Hid (Ext wl wr))
      case atStart=>exact⟨0,_,by omega,rfl,rfl,rfl,OwnOf.nil _ _ _ _ _,Ext.refl wl⟩
      case round =>
       obtain⟨j,ug,hj,rfl,rfl,rfl,OG,XG⟩:=hrel
       by_cases hltj:j<N
       ·have hjl:j<l.length:=by have:=HN.out;omega
        have hd2:decide ((j:Int)<(N:Int))=true:=by simp;omega
        obtain⟨b,o',rfl⟩:=HP.out (by decide) (by omega)
        have hv:=HV.out
        rw [HN.out]at hv
        obtain⟨ta,tb,c0,c1,c2,c3,g0,g1,gr0,gr1⟩:=tup_at hv j hjl
        obtain⟨pa,ka,ta',_⟩:=g0.form
        obtain⟨pb,kb,tb',_⟩:=g1.form
        subst ta' tb'
        have xx:=X3.out.trans XG.out
        replace c0:=xx.at c0
        replace c1:=xx.at c1
        replace c2:=xx.at c2
        replace c3:=xx.at c3
        have hst:=grpOf_take l r j hjl
        have hgl:(grpOf (l.take j) r).length≤20000:=Nat.le_trans (grpOf_len _ _) (by rw [List.length_take];omega)
        obtain⟨G,hG⟩ : ∃G,G=grpOf (l.take j) r:=⟨_,rfl⟩
        rw [←hG]at OG hst hgl
        have G0:=Lib.hid (g0.ext X3.out.full)
        have G1:=Lib.hid (g1.ext X3.out.full)
        have GR:=Lib.hid (And.intro gr0 gr1)
        obtain⟨bq,hbq⟩ : ∃z,z=eqB (tupRow l[j]) r:=⟨_,rfl⟩
        rw [←hbq]at hst
        have htr:tupRow l[j]=⟨l[j].vals,l[j].lin⟩:=rfl
        rw [htr]at hbq
        generalize l[j]=y at c0 c1 c2 c3 G0 G1 GR hst hbq
        obtain⟨vs,f,t,ln⟩:=y
        dsimp only at c0 c1 c2 c3 G0 G1 GR hst hbq
        have HST:=Lib.hid hst
        have HBQ:=Lib.hid hbq
        have HGL:=Lib.hid hgl
        obtain⟨nv,hnv⟩ : ∃z,z=vs.length:=⟨_,rfl⟩
        obtain⟨nl,hnl⟩ : ∃z,z=ln.length:=⟨_,rfl⟩
        rw [←hnv]at c0 G0
        rw [←hnl]at c3 G1
        have e0:=cell_lt c0
        have d0:=xx.at D0.out.1
        have d1:=xx.at D0.out.2
        clear hst hbq hgl hG htr g0 g1 gr0 gr1 hv xx hnv hnl
        go_wp2_with fail
        have xn:=(Ext.refl wr).alloc (.cells #[.slice pa nv ka,.int .i64 f,.int .i64 t,.slice pb nl kb] 96)
        have b0:(wr.alloc (.cells #[.slice pa nv ka,.int .i64 f,.int .i64 t,.slice pb nl kb] 96)).cell? ⟨wr.heap.size,0,none⟩=some (.slice pa nv ka):=by go_simp
        have b1:(wr.alloc (.cells #[.slice pa nv ka,.int .i64 f,.int .i64 t,.slice pb nl kb] 96)).cell? ⟨wr.heap.size,1,none⟩=some (.int .i64 f):=by go_simp
        have b2:(wr.alloc (.cells #[.slice pa nv ka,.int .i64 f,.int .i64 t,.slice pb nl kb] 96)).cell? ⟨wr.heap.size,2,none⟩=some (.int .i64 t):=by go_simp
        have b3:(wr.alloc (.cells #[.slice pa nv ka,.int .i64 f,.int .i64 t,.slice pb nl kb] 96)).cell? ⟨wr.heap.size,3,none⟩=some (.slice pb nl kb):=by go_simp
        replace d0:=xn.at d0
        replace d1:=xn.at d1
        generalize (wr.alloc (.cells #[.slice pa nv ka,.int .i64 f,.int .i64 t,.slice pb nl kb] 96))=w8 at xn b0 b1 b2 b3 d0 d1 ⊢
        have hS0:Ext wr w8.drew∧w8.drew.cell? ⟨wr.heap.size,0,none⟩=some (.slice pa nv ka)∧w8.drew.cell? ⟨wr.heap.size,1,none⟩=some (.int .i64 f)∧w8.drew.cell? ⟨wr.heap.size,2,none⟩=some (.int .i64 t)∧w8.drew.cell? ⟨wr.heap.size,3,none⟩=some (.slice pb nl kb)∧w8.drew.cell? ⟨br,orr+k*2,none⟩=some (.slice pra nra kra)∧w8.drew.cell? ⟨br,orr+k*2+1,none⟩=some (.slice prb nrb krb):=⟨xn.drew,b0,b1,b2,b3,d0,d1⟩
        clear c0 c1 c2 c3 e0 xn b0 b1 b2 b3 d0 d1
        go_region_held3 (fun w'=>Ext wr w'∧w'.cell? ⟨wr.heap.size,0,none⟩=some (.slice pa nv ka)∧w'.cell? ⟨wr.heap.size,1,none⟩=some (.int .i64 f)∧w'.cell? ⟨wr.heap.size,2,none⟩=some (.int .i64 t)∧w'.cell? ⟨wr.heap.size,3,none⟩=some (.slice pb nl kb)∧w'.cell? ⟨br,orr+k*2,none⟩=some (.slice pra nra kra)∧w'.cell? ⟨br,orr+k*2+1,none⟩=some (.slice prb nrb krb))
         (first |with_reducible assumption | with_reducible exact keepE6 (by assumption) x5 | with_reducible exact keepE6 (by assumption) x4)
         (first |(go_at_call 51;refine(refRow_any _ _ _ _ _ _ f t _).mono ?_;rintro e w4 ⟨rfl,x4⟩) | (go_at_call 50;refine(ref_sameRow _ _ _ _ ⟨vs,ln⟩ r _ (by exact G0.out.ext (XG.out.trans (And.left ‹Ext wr _∧_›)).full) (by exact Q0.out.ext ((X3.out.trans XG.out).trans (And.left ‹Ext wr _∧_›)).full) (by exact G1.out.ext (XG.out.trans (And.left ‹Ext wr _∧_›)).full) (by exact Q1.out.ext ((X3.out.trans XG.out).trans (And.left ‹Ext wr _∧_›)).full)).mono ?_;rintro e w5 ⟨rfl,y5⟩;have x5:=y5.ext;rw [←HBQ.out]) | fail)
        all_goals
         obtain⟨xf,b0,b1,b2,b3,_,_⟩:= ‹Ext wr _∧_›
         have XF:=Lib.hid xf
         have e7:=cell_lt b0
         clear hS0 xf
         cases bq
         ·have HG2:=Lib.hid (show grpOf (l.take (j+1)) r=G from by rw [HST.out,if_neg (by decide),List.append_nil])
          go_wp2_with fail
          go_roundg (N - (j+1))
          case measure=>omega
          case rel=>exact⟨j+1,_,by omega,rfl,by go_num,rfl,by show OwnOf _ _ _ _ _ _ _;rw [HG2.out];exact OG.out.ext XF.out,XG.out.trans XF.out⟩
         ·have HG2:=Lib.hid (show grpOf (l.take (j+1)) r=G ++ [⟨vs,f,t,ln⟩]from by rw [HST.out,if_pos rfl])
          obtain⟨pu,cu,hu,_⟩:=OG.out.slice.form
          subst hu
          obtain⟨ng,hng⟩ : ∃z,z=G.length:=⟨_,rfl⟩
          rw [←hng]at OG ⊢
          have B1:G.length+1≤maxLen:=by have:=HGL.out;unfold maxLen;omega
          have B2:(G.length+1)*64≤140737488355328:=by have:=HGL.out;omega
          have XA:=Lib.hid ((XG.out.trans XF.out).alloc (.cells #[.slice pa nv ka,.int .i64 f,.int .i64 t,.slice pb nl kb] 96))
          have OA:=Lib.hid (OG.out.ext (XF.out.alloc (.cells #[.slice pa nv ka,.int .i64 f,.int .i64 t,.slice pb nl kb] 96)))
          clear hng
          go_wp2_with (at_builtin;go_loud (refine wpList_append_one Rep.tup (fun k=>k<wl.heap.size) rfl _ _ 22 rfl wl.heap.size 96 i1 _ 64 Tryz.underlying22 hi1 hz10 hz11 hz12 rfl (by decide) (.slice pu ng cu) G rfl (by exact OA.out) ⟨_,0,none⟩ 1 ⟨vs,f,t,ln⟩ [.slice pa nv ka,.int .i64 f,.int .i64 t,.slice pb nl kb] rfl (by
                have hs:=(full_on wl (fun k=>k<wl.heap.size) fun _ h=>h).trans (old_avoid XA.out OA.out)
                exact⟨_,_,rfl,G0.out.ext hs,G1.out.ext hs,GR.out.1,GR.out.2⟩) (by exact cells_new _ [.slice pa nv ka,.int .i64 f,.int .i64 t,.slice pb nl kb] _) B1 B2 (by exact XA.out.size) ?_))
          intro g c9 w9 own gr _
          have X9:=Lib.hid (show Ext wl w9 from XA.out.grownNew gr OG.out.base)
          have O9:=Lib.hid own
          clear own gr b0 b1 b2 b3 e7 B1 B2
          go_wp2_with fail
          go_roundg (N - (j+1))
          case measure=>omega
          case rel=>exact⟨j+1,_,by omega,rfl,by go_num,rfl,by show OwnOf _ _ _ _ _ _ _;rw [HG2.out];exact O9.out,X9.out⟩
       ·have hjN:j=N:=by omega
        have hd2 : ¬(j:Int)<(N:Int):=by omega
        obtain⟨wn,rfl⟩ : ∃z,z=wr:=⟨wr,rfl⟩
        have hall:l.take j=l:=by rw [hjN,HN.out,List.take_length]
        rw [hall]at OG
        have hgl:(grpOf l r).length≤20000:=Nat.le_trans (grpOf_len l r) (by have:=HN.out;omega)
        have hgp:(pts (grpOf l r)).length≤1000:=Nat.le_trans (grpOf_pts l r) HPL.out
        have hlvl:(refLevels (grpOf l r)).length≤20000000:=Nat.le_trans (refLev_len _ _ _) (Nat.mul_le_mul hgl hgp)
        have HGL:=Lib.hid (And.intro hgl hgp)
        have O2:=Lib.hid (OT.out.ext XG.out)
        have HUO:=Lib.hid (fun b hb=>(O2.out.lt b hb).2)
        obtain⟨pg,cg,hug,_⟩:=OG.out.slice.form
        subst hug
        clear hjN hall hltj hj hgl hgp
        go_wp2_with fail
        refine(refLevels_any _ (grpOf l r) _ OG.out.slice HGL.out.1 HGL.out.2).mono ?_
        rintro e w6 ⟨v6,rfl,s6,x6⟩
        obtain⟨LV,hLV⟩ : ∃LV,LV=refLevels (grpOf l r):=⟨_,rfl⟩
        rw [←hLV]at s6 HNU hlvl
        obtain⟨pn,cn,rfl,_,_,hpn⟩:=s6.form
        obtain⟨Q,hQ⟩ : ∃Q,Q=LV.length:=⟨_,rfl⟩
        rw [←hQ]at s6 hpn hlvl ⊢
        have HQ:=Lib.hid hQ
        have HPN:=Lib.hid hpn
        have HLVL:=Lib.hid hlvl
        have S6:=Lib.hid (SliceOf.flatOn flat_per (S:=fun b=>(Value.slice pn Q cn).ownBlock=some b) (s6.ext (on_sub _ _)) (fun ad n c e=>by rw [e];rfl))
        have HBN:=Lib.hid (show 0<Q→ ∀b,(Value.slice pn Q cn).ownBlock=some b→wn.heap.size≤b∧b<w6.heap.size from fun h0 b hb=>by
         obtain⟨bn,on_,rfl⟩:=hpn (by decide) h0
         injection hb with hb
         subst hb
         have h1:=(per_at s6 0 (by rw [←hQ];exact h0)).1
         exact⟨(on_some.1 h1).1,cell_lt (on_some.1 h1).2⟩)
        have O6:=Lib.hid (O2.out.ext x6)
        have X6:=Lib.hid ((X3.out.trans XG.out).trans x6)
        have hqb:Q≤20000000:=hlvl
        clear s6 hLV hQ hpn O2 OG XG x6 hlvl OT
        go_wp2_with fail
        clear hd2
        go_loopg [6,68] Q (fun gq vo vq wr=> ∃(q:Nat) (u:Value),q≤Q∧gq=Q - q∧vq = .int .i64 q∧u=vo∧Hid (OwnOf Rep.tup wr (fun k=>k<w2.heap.size) w2.heap.size 96 u (OL++(LV.take q).map (tupOf r)))∧Hid (∀b,Value.ownBlock u=some b→0<Q→ ¬(Value.slice pn Q cn).ownBlock=some b)∧Hid (SliceOf Rep.per (on wr fun b=>(Value.slice pn Q cn).ownBlock=some b) (.slice pn Q cn) LV)∧Hid (Ext w2 wr)∧Hid (w6.heap.size≤wr.heap.size))
        case atStart=>exact⟨0,_,by omega,rfl,rfl,rfl,by show OwnOf _ _ _ _ _ _ _;rw [List.take_zero,List.map_nil,List.append_nil];exact O6.out,(fun b hb h0 hs=>by have h1:=HUO.out b hb;have h2:=(HBN.out h0 b hs).1;omega),S6.out,X6.out,Nat.le_refl _⟩
        case round =>
         clear S6 O6 X6
         obtain⟨q,u,hq,rfl,rfl,rfl,OU,HNE,SN,X7,Z7⟩:=hrel
         by_cases hltq:q<Q
         ·have hql:q<LV.length:=by have:=HQ.out;omega
          have hd3:decide ((q:Int)<(Q:Int))=true:=by simp;omega
          have HBN1:=Lib.hid (fun b hb=>HBN.out (by omega) b hb)
          have HNE1:=Lib.hid (fun b hb=>HNE.out b hb (by omega))
          obtain⟨bn,on_,rfl⟩:=HPN.out (by decide) (by omega)
          have hsv:=SN.out
          rw [HQ.out]at hsv
          obtain⟨c0,c1,r0,r1⟩:=per_at hsv q hql
          replace c0:=(on_some.1 c0).2
          replace c1:=(on_some.1 c1).2
          have hstp:OL++(LV.take (q+1)).map (tupOf r)=(OL++(LV.take q).map (tupOf r)) ++ [⟨r.vals,LV[q].from_,LV[q].to_,r.lin⟩]:=by
           rw [List.take_succ_eq_append_getElem hql,List.map_append,←List.append_assoc]
           rfl
          have hol:(OL++(LV.take q).map (tupOf r)).length≤400020000000:=by
           rw [List.length_append,List.length_map,List.length_take]
           have h1:=HTL.out
           have h2:k*20000000≤20000*20000000:=Nat.mul_le_mul_right _ (by omega)
           omega
          obtain⟨T,hT⟩ : ∃T,T=OL++(LV.take q).map (tupOf r):=⟨_,rfl⟩
          rw [←hT]at OU hstp hol
          generalize LV[q]=pp at c0 c1 r0 r1 hstp
          obtain⟨pf,pt⟩:=pp
          dsimp only at c0 c1 r0 r1 hstp
          have HSTP:=Lib.hid hstp
          have HPQ:=Lib.hid (And.intro r0 r1)
          have HOL:=Lib.hid hol
          obtain⟨pu,cu,hu,_⟩:=OU.out.slice.form
          subst hu
          obtain⟨n9,hn9⟩ : ∃n,n=T.length:=⟨_,rfl⟩
          have HUL:=Lib.hid (fun b hb=>OU.out.lt b hb)
          rw [←hn9]at OU HNE1 HUL ⊢
          have HN9:=Lib.hid hn9
          have B1:T.length+1≤maxLen:=by have:=HOL.out;unfold maxLen;omega
          have B2:(T.length+1)*64≤140737488355328:=by have:=HOL.out;omega
          have e0:=cell_lt c0
          have d0:=X7.out.at D0.out.1
          have d1:=X7.out.at D0.out.2
          clear hsv hql hstp hol r0 r1 hT hn9
          go_wp2_with fail
          have xn:=(Ext.refl wr).alloc (.cells #[.int .i64 pf,.int .i64 pt] 94)
          have b0:(wr.alloc (.cells #[.int .i64 pf,.int .i64 pt] 94)).cell? ⟨wr.heap.size,0,none⟩=some (.int .i64 pf):=by go_simp
          have b1:(wr.alloc (.cells #[.int .i64 pf,.int .i64 pt] 94)).cell? ⟨wr.heap.size,1,none⟩=some (.int .i64 pt):=by go_simp
          replace d0:=xn.at d0
          replace d1:=xn.at d1
          generalize (wr.alloc (.cells #[.int .i64 pf,.int .i64 pt] 94))=w8 at xn b0 b1 d0 d1 ⊢
          have hS0:Ext w2 w8.drew∧w8.drew.cell? ⟨br,orr+k*2,none⟩=some (.slice pra nra kra)∧w8.drew.cell? ⟨br,orr+k*2+1,none⟩=some (.slice prb nrb krb)∧w8.drew.cell? ⟨wr.heap.size,0,none⟩=some (.int .i64 pf)∧w8.drew.cell? ⟨wr.heap.size,1,none⟩=some (.int .i64 pt):=⟨(X7.out.trans xn).drew,d0,d1,b0,b1⟩
          have XN:=Lib.hid xn
          have HZ8:=Lib.hid (show wr.heap.size<w8.heap.size from cell_lt b0)
          have OV:=Lib.hid (fun o=>OU.out.ext (XN.out.drew.alloc o))
          have OV2:=Lib.hid (fun o=>OU.out.ext (XN.out.alloc o).drew)
          have HDAT:=Lib.hid (fun(wz:World) (hx:Ext w2 wz) (ho:OwnOf Rep.tup wz (fun k=>k<w2.heap.size) w2.heap.size 96 (.slice pu n9 cu) T)=>(by
           have hs:=(full_on w2 (fun k=>k<w2.heap.size) fun _ h=>h).trans (old_avoid hx ho)
           exact⟨_,_,rfl,Q0.out.ext hs,Q1.out.ext hs,HPQ.out.1,HPQ.out.2⟩:Rep.tup.holds (on wz (avoid (fun k=>k<w2.heap.size) (.slice pu n9 cu))) [.slice pra nra kra,.int .i64 pf,.int .i64 pt,.slice prb nrb krb] ⟨r.vals,pf,pt,r.lin⟩))
          clear c0 c1 e0 xn b0 b1 d0 d1
          go_region_held3 (fun w'=>Ext w2 w'∧w'.cell? ⟨br,orr+k*2,none⟩=some (.slice pra nra kra)∧w'.cell? ⟨br,orr+k*2+1,none⟩=some (.slice prb nrb krb)∧w'.cell? ⟨wr.heap.size,0,none⟩=some (.int .i64 pf)∧w'.cell? ⟨wr.heap.size,1,none⟩=some (.int .i64 pt))
           (first |with_reducible assumption | with_reducible exact keepE4 (by assumption) ((Ext.refl _).alloc _))
           (first
                |(refine step_append_one Rep.tup (fun k=>k<w2.heap.size) rfl _ _ 22 rfl w2.heap.size 96 i1 _ 64 Tryz.underlying22 hi1 hz10 hz11 hz12 rfl (by decide) (.slice pu n9 cu) T rfl (by first | exact OV.out _ | exact OV2.out _) ⟨_,0,none⟩ 1 ⟨r.vals,pf,pt,r.lin⟩ [.slice pra nra kra,.int .i64 pf,.int .i64 pt,.slice prb nrb krb] rfl (by first | exact HDAT.out _ (hS0.1.alloc _) (OV.out _) | exact HDAT.out _ ((X7.out.trans XN.out).alloc _).drew (OV2.out _)) (cells_new _ [.slice pra nra kra,.int .i64 pf,.int .i64 pt,.slice prb nrb krb] _) B1 B2 (by first | exact(hS0.1.alloc _).size | exact((X7.out.trans XN.out).alloc _).drew.size) ?_;intro g9 c9 w9 own9 gr9 hat9;have K9:=keepX4 (by first | exact keepE4 hS0 ((Ext.refl _).alloc _) | exact hS0) gr9 (fun b hb=>(HUL.out b hb).1) (fun b hb=>by have h1:=HUL.out b hb;have h2:=HBL.out;exact⟨by omega,by omega,by omega,by omega⟩);have OW9:=Lib.hid own9;have GR9:=Lib.hid gr9;have HAT9:=Lib.hid hat9;clear own9)
                |fail)
          all_goals
           have X12:=Lib.hid K9.1
           clear hS0
           have SN9:=Lib.hid ((SN.out.ext ((XN.out.drew.alloc _).sub _)).ext (grown_sub GR9.out fun b hb e=>HNE1.out b e.symm hb))
           have Z9:=Lib.hid (Nat.le_trans Z7.out (Nat.le_trans (XN.out.drew.alloc (.cells #[.slice pra nra kra,.int .i64 pf,.int .i64 pt,.slice prb nrb krb] 96)).size GR9.out.size))
           have HNE9:=Lib.hid (show ∀b,(Value.slice (some ⟨g9,0,none⟩) (T.length+1) c9).ownBlock=some b→0<Q→ ¬(Value.slice (some ⟨bn,on_,none⟩) Q cn).ownBlock=some b from fun b hb _ hs=>by
                injection hb with hb
                injection hs with hs
                have hgb:g9=bn:=(show g9=b from hb).trans (show bn=b from hs).symm
                rcases HAT9.out with h | h
                ·exact HNE1.out g9 h (by rw [hgb];rfl)
                ·have h2:=(HBN1.out bn rfl).2
                 have h3:=Z7.out
                 have h4:=HZ8.out
                 try rw [alloc_size]at h
                 have h5:w8.heap.size≤g9:=by rw [h];first | exact Nat.le_refl _ | exact Nat.le_succ _ | simp
                 omega)
           go_wp2_with fail
           go_roundg (Q - (q+1))
           case measure=>omega
           case rel=>exact⟨q+1,_,by omega,rfl,by go_num,rfl,by show OwnOf _ _ _ _ _ _ _;rw [HSTP.out];exact OW9.out,HNE9.out,SN9.out,X12.out,Z9.out⟩
         ·have hqQ:q=Q:=by omega
          have hd3 : ¬(q:Int)<(Q:Int):=by omega
          have HFIN:=Lib.hid (show OL++(LV.take q).map (tupOf r)=refNU R l (k+1)from by rw [HNU.out,hqQ,HQ.out,List.take_length])
          have HTL2:=Lib.hid (show (refNU R l (k+1)).length≤(k+1)*20000000 from by
           rw [HNU.out,List.length_append,List.length_map,←HQ.out]
           have h1:=HTL.out
           have h2:=HLVL.out
           omega)
          clear hqQ
          go_wp2_with fail
          go_roundg (n - (k+1))
          case measure=>omega
          case rel=>exact⟨k+1,_,by omega,rfl,by go_num,rfl,by show OwnOf _ _ _ _ _ _ _;rw [←HFIN.out];exact OU.out,HTL2.out,X7.out⟩
     ·have hnz0:decide ((0:Int)<(k:Int))=true:=decide_eq_true (by omega)
      have hnz1:decide (0<k)=true:=decide_eq_true (by omega)
      have hnz3:0<k:=by omega
      obtain⟨m,hm⟩ : ∃m,k=m+1:=⟨k - 1,by omega⟩
      have hml:m<R.length:=by omega
      have em:(k:Int) - 1=(m:Int):=by omega
      have hwm:IntKind.i64.wrap ((k:Int) - 1)=(m:Int):=by rw [IntKind.wrap_i64];omega
      have hmn:(m:Int)<(n:Int):=by omega
      have hmn2:m<n:=by omega
      have hm0:(0:Int)≤(m:Int):=by omega
      have hwm2:IntKind.i64.wrap (m:Int)=(m:Int):=by rw [IntKind.wrap_i64];omega
      have hsv:=S2.out
      rw [HNR.out]at hsv
      obtain⟨qa,qb,l0,l1,q0,q1⟩:=row_at hsv m hml
      obtain⟨pqa,kqa,rfl,_⟩:=q0.form
      obtain⟨pqb,kqb,rfl,_⟩:=q1.form
      obtain⟨bq,hbq⟩ : ∃z,z=eqB R[m] r:=⟨_,rfl⟩
      have HEQ:=Lib.hid (show bq=true↔(0<k∧R[k - 1]?=R[k]?)from by
       rw [hbq,HR.out]
       rw [eqB_iffQ,show k - 1=m by omega,List.getElem?_eq_getElem hml,List.getElem?_eq_getElem hkl]
       constructor
       ·intro h;exact⟨hnz3,by rw [h]⟩
       ·intro h;exact Option.some.inj h.2)
      generalize R[m]=rm at l0 l1 q0 q1 hbq
      have HBQ:=Lib.hid hbq
      have G0:=Lib.hid q0
      have G1:=Lib.hid q1
      obtain⟨nqa,hnqa⟩ : ∃z,z=rm.vals.length:=⟨_,rfl⟩
      obtain⟨nqb,hnqb⟩ : ∃z,z=rm.lin.length:=⟨_,rfl⟩
      rw [←hnqa]at l0 G0
      rw [←hnqb]at l1 G1
      replace l0:=X3.out.at l0
      replace l1:=X3.out.at l1
      have d0:=X3.out.at D0.out.1
      have d1:=X3.out.at D0.out.2
      have hS0:Ext wr wr.drew∧wr.drew.cell? ⟨br,orr+m*2,none⟩=some (.slice pqa nqa kqa)∧wr.drew.cell? ⟨br,orr+m*2+1,none⟩=some (.slice pqb nqb kqb)∧wr.drew.cell? ⟨br,orr+k*2,none⟩=some (.slice pra nra kra)∧wr.drew.cell? ⟨br,orr+k*2+1,none⟩=some (.slice prb nrb krb):=⟨(Ext.refl wr).drew,l0,l1,d0,d1⟩
      clear hsv q0 q1 hbq hnqa hnqb hk0 hm l0 l1 d0 d1
      go_wp2_with fail
      go_region_held3 (fun w'=>Ext wr w'∧w'.cell? ⟨br,orr+m*2,none⟩=some (.slice pqa nqa kqa)∧w'.cell? ⟨br,orr+m*2+1,none⟩=some (.slice pqb nqb kqb)∧w'.cell? ⟨br,orr+k*2,none⟩=some (.slice pra nra kra)∧w'.cell? ⟨br,orr+k*2+1,none⟩=some (.slice prb nrb krb))
       (first |with_reducible assumption | with_reducible exact keepE4 (by assumption) x5)
       (first |(go_at_call 50;refine(ref_sameRow _ _ _ _ rm r _ (by exact G0.out.ext (X3.out.trans (And.left ‹Ext wr _∧_›)).full) (by exact Q0.out.ext (X3.out.trans (And.left ‹Ext wr _∧_›)).full) (by exact G1.out.ext (X3.out.trans (And.left ‹Ext wr _∧_›)).full) (by exact Q1.out.ext (X3.out.trans (And.left ‹Ext wr _∧_›)).full)).mono ?_;rintro e wl ⟨rfl,y5⟩;have x5:=y5.ext;rw [←HBQ.out]) | fail)
      all_goals
       have xf:=And.left ‹Ext wr _∧_›
       have OT2:=Lib.hid (OT.out.ext xf)
       have X32:=Lib.hid (X3.out.trans xf)
       clear hS0 xf
       cases bq
       ·have HFRESH:=Lib.hid (show ¬(0<k∧R[k - 1]?=R[k]?)from fun h=>absurd (HEQ.out.2 h) (by decide))
        clear OT X3
        have OT:=Lib.hid OT2.out
        have X3:=Lib.hid X32.out
        clear OT2 X32
        have HNU:=Lib.hid (HTAKE.out HFRESH.out)
        obtain⟨OL,hOL⟩ : ∃z,z=refNU R l k:=⟨_,rfl⟩
        rw [←hOL]at OT HTL HNU
        clear hOL
        go_wp2_with fail
        go_loopg [8,49] N (fun gj vg vj wr=> ∃(j:Nat) (ug:Value),j≤N∧gj=N - j∧vj = .int .i64 j∧ug=vg∧Hid (OwnOf Rep.tup wr (fun k=>k<wl.heap.size) wl.heap.size 96 ug (grpOf (l.take j) r))∧Hid (Ext wl wr))
        case atStart=>exact⟨0,_,by omega,rfl,rfl,rfl,OwnOf.nil _ _ _ _ _,Ext.refl wl⟩
        case round =>
         obtain⟨j,ug,hj,rfl,rfl,rfl,OG,XG⟩:=hrel
         by_cases hltj:j<N
         ·have hjl:j<l.length:=by have:=HN.out;omega
          have hd2:decide ((j:Int)<(N:Int))=true:=by simp;omega
          obtain⟨b,o',rfl⟩:=HP.out (by decide) (by omega)
          have hv:=HV.out
          rw [HN.out]at hv
          obtain⟨ta,tb,c0,c1,c2,c3,g0,g1,gr0,gr1⟩:=tup_at hv j hjl
          obtain⟨pa,ka,ta',_⟩:=g0.form
          obtain⟨pb,kb,tb',_⟩:=g1.form
          subst ta' tb'
          have xx:=X3.out.trans XG.out
          replace c0:=xx.at c0
          replace c1:=xx.at c1
          replace c2:=xx.at c2
          replace c3:=xx.at c3
          have hst:=grpOf_take l r j hjl
          have hgl:(grpOf (l.take j) r).length≤20000:=Nat.le_trans (grpOf_len _ _) (by rw [List.length_take];omega)
          obtain⟨G,hG⟩ : ∃G,G=grpOf (l.take j) r:=⟨_,rfl⟩
          rw [←hG]at OG hst hgl
          have G0:=Lib.hid (g0.ext X3.out.full)
          have G1:=Lib.hid (g1.ext X3.out.full)
          have GR:=Lib.hid (And.intro gr0 gr1)
          obtain⟨bq,hbq⟩ : ∃z,z=eqB (tupRow l[j]) r:=⟨_,rfl⟩
          rw [←hbq]at hst
          have htr:tupRow l[j]=⟨l[j].vals,l[j].lin⟩:=rfl
          rw [htr]at hbq
          generalize l[j]=y at c0 c1 c2 c3 G0 G1 GR hst hbq
          obtain⟨vs,f,t,ln⟩:=y
          dsimp only at c0 c1 c2 c3 G0 G1 GR hst hbq
          have HST:=Lib.hid hst
          have HBQ:=Lib.hid hbq
          have HGL:=Lib.hid hgl
          obtain⟨nv,hnv⟩ : ∃z,z=vs.length:=⟨_,rfl⟩
          obtain⟨nl,hnl⟩ : ∃z,z=ln.length:=⟨_,rfl⟩
          rw [←hnv]at c0 G0
          rw [←hnl]at c3 G1
          have e0:=cell_lt c0
          have d0:=xx.at D0.out.1
          have d1:=xx.at D0.out.2
          clear hst hbq hgl hG htr g0 g1 gr0 gr1 hv xx hnv hnl
          go_wp2_with fail
          have xn:=(Ext.refl wr).alloc (.cells #[.slice pa nv ka,.int .i64 f,.int .i64 t,.slice pb nl kb] 96)
          have b0:(wr.alloc (.cells #[.slice pa nv ka,.int .i64 f,.int .i64 t,.slice pb nl kb] 96)).cell? ⟨wr.heap.size,0,none⟩=some (.slice pa nv ka):=by go_simp
          have b1:(wr.alloc (.cells #[.slice pa nv ka,.int .i64 f,.int .i64 t,.slice pb nl kb] 96)).cell? ⟨wr.heap.size,1,none⟩=some (.int .i64 f):=by go_simp
          have b2:(wr.alloc (.cells #[.slice pa nv ka,.int .i64 f,.int .i64 t,.slice pb nl kb] 96)).cell? ⟨wr.heap.size,2,none⟩=some (.int .i64 t):=by go_simp
          have b3:(wr.alloc (.cells #[.slice pa nv ka,.int .i64 f,.int .i64 t,.slice pb nl kb] 96)).cell? ⟨wr.heap.size,3,none⟩=some (.slice pb nl kb):=by go_simp
          replace d0:=xn.at d0
          replace d1:=xn.at d1
          generalize (wr.alloc (.cells #[.slice pa nv ka,.int .i64 f,.int .i64 t,.slice pb nl kb] 96))=w8 at xn b0 b1 b2 b3 d0 d1 ⊢
          have hS0:Ext wr w8.drew∧w8.drew.cell? ⟨wr.heap.size,0,none⟩=some (.slice pa nv ka)∧w8.drew.cell? ⟨wr.heap.size,1,none⟩=some (.int .i64 f)∧w8.drew.cell? ⟨wr.heap.size,2,none⟩=some (.int .i64 t)∧w8.drew.cell? ⟨wr.heap.size,3,none⟩=some (.slice pb nl kb)∧w8.drew.cell? ⟨br,orr+k*2,none⟩=some (.slice pra nra kra)∧w8.drew.cell? ⟨br,orr+k*2+1,none⟩=some (.slice prb nrb krb):=⟨xn.drew,b0,b1,b2,b3,d0,d1⟩
          clear c0 c1 c2 c3 e0 xn b0 b1 b2 b3 d0 d1
          go_region_held3 (fun w'=>Ext wr w'∧w'.cell? ⟨wr.heap.size,0,none⟩=some (.slice pa nv ka)∧w'.cell? ⟨wr.heap.size,1,none⟩=some (.int .i64 f)∧w'.cell? ⟨wr.heap.size,2,none⟩=some (.int .i64 t)∧w'.cell? ⟨wr.heap.size,3,none⟩=some (.slice pb nl kb)∧w'.cell? ⟨br,orr+k*2,none⟩=some (.slice pra nra kra)∧w'.cell? ⟨br,orr+k*2+1,none⟩=some (.slice prb nrb krb))
           (first |with_reducible assumption | with_reducible exact keepE6 (by assumption) x5 | with_reducible exact keepE6 (by assumption) x4)
           (first |(go_at_call 51;refine(refRow_any _ _ _ _ _ _ f t _).mono ?_;rintro e w4 ⟨rfl,x4⟩) | (go_at_call 50;refine(ref_sameRow _ _ _ _ ⟨vs,ln⟩ r _ (by exact G0.out.ext (XG.out.trans (And.left ‹Ext wr _∧_›)).full) (by exact Q0.out.ext ((X3.out.trans XG.out).trans (And.left ‹Ext wr _∧_›)).full) (by exact G1.out.ext (XG.out.trans (And.left ‹Ext wr _∧_›)).full) (by exact Q1.out.ext ((X3.out.trans XG.out).trans (And.left ‹Ext wr _∧_›)).full)).mono ?_;rintro e w5 ⟨rfl,y5⟩;have x5:=y5.ext;rw [←HBQ.out]) | fail)
          all_goals
           obtain⟨xf,b0,b1,b2,b3,_,_⟩:= ‹Ext wr _∧_›
           have XF:=Lib.hid xf
           have e7:=cell_lt b0
           clear hS0 xf
           cases bq
           ·    have HG2:=Lib.hid (show grpOf (l.take (j+1)) r=G from by rw [HST.out,if_neg (by decide),List.append_nil])
                go_wp2_with fail
                go_roundg (N - (j+1))
                case measure=>omega
                case rel=>exact⟨j+1,_,by omega,rfl,by go_num,rfl,by show OwnOf _ _ _ _ _ _ _;rw [HG2.out];exact OG.out.ext XF.out,XG.out.trans XF.out⟩
           ·    have HG2:=Lib.hid (show grpOf (l.take (j+1)) r=G ++ [⟨vs,f,t,ln⟩]from by rw [HST.out,if_pos rfl])
                obtain⟨pu,cu,hu,_⟩:=OG.out.slice.form
                subst hu
                obtain⟨ng,hng⟩ : ∃z,z=G.length:=⟨_,rfl⟩
                rw [←hng]at OG ⊢
                have B1:G.length+1≤maxLen:=by have:=HGL.out;unfold maxLen;omega
                have B2:(G.length+1)*64≤140737488355328:=by have:=HGL.out;omega
                have XA:=Lib.hid ((XG.out.trans XF.out).alloc (.cells #[.slice pa nv ka,.int .i64 f,.int .i64 t,.slice pb nl kb] 96))
                have OA:=Lib.hid (OG.out.ext (XF.out.alloc (.cells #[.slice pa nv ka,.int .i64 f,.int .i64 t,.slice pb nl kb] 96)))
                clear hng
                go_wp2_with (at_builtin;go_loud (refine wpList_append_one Rep.tup (fun k=>k<wl.heap.size) rfl _ _ 22 rfl wl.heap.size 96 i1 _ 64 Tryz.underlying22 hi1 hz10 hz11 hz12 rfl (by decide) (.slice pu ng cu) G rfl (by exact OA.out) ⟨_,0,none⟩ 1 ⟨vs,f,t,ln⟩ [.slice pa nv ka,.int .i64 f,.int .i64 t,.slice pb nl kb] rfl (by
                  have hs:=(full_on wl (fun k=>k<wl.heap.size) fun _ h=>h).trans (old_avoid XA.out OA.out)
                  exact⟨_,_,rfl,G0.out.ext hs,G1.out.ext hs,GR.out.1,GR.out.2⟩) (by exact cells_new _ [.slice pa nv ka,.int .i64 f,.int .i64 t,.slice pb nl kb] _) B1 B2 (by exact XA.out.size) ?_))
                intro g c9 w9 own gr _
                have X9:=Lib.hid (show Ext wl w9 from XA.out.grownNew gr OG.out.base)
                have O9:=Lib.hid own
                clear own gr b0 b1 b2 b3 e7 B1 B2
                go_wp2_with fail
                go_roundg (N - (j+1))
                case measure=>omega
                case rel=>exact⟨j+1,_,by omega,rfl,by go_num,rfl,by show OwnOf _ _ _ _ _ _ _;rw [HG2.out];exact O9.out,X9.out⟩
         ·have hjN:j=N:=by omega
          have hd2 : ¬(j:Int)<(N:Int):=by omega
          obtain⟨wn,rfl⟩ : ∃z,z=wr:=⟨wr,rfl⟩
          have hall:l.take j=l:=by rw [hjN,HN.out,List.take_length]
          rw [hall]at OG
          have hgl:(grpOf l r).length≤20000:=Nat.le_trans (grpOf_len l r) (by have:=HN.out;omega)
          have hgp:(pts (grpOf l r)).length≤1000:=Nat.le_trans (grpOf_pts l r) HPL.out
          have hlvl:(refLevels (grpOf l r)).length≤20000000:=Nat.le_trans (refLev_len _ _ _) (Nat.mul_le_mul hgl hgp)
          have HGL:=Lib.hid (And.intro hgl hgp)
          have O2:=Lib.hid (OT.out.ext XG.out)
          have HUO:=Lib.hid (fun b hb=>(O2.out.lt b hb).2)
          obtain⟨pg,cg,hug,_⟩:=OG.out.slice.form
          subst hug
          clear hjN hall hltj hj hgl hgp
          go_wp2_with fail
          refine(refLevels_any _ (grpOf l r) _ OG.out.slice HGL.out.1 HGL.out.2).mono ?_
          rintro e w6 ⟨v6,rfl,s6,x6⟩
          obtain⟨LV,hLV⟩ : ∃LV,LV=refLevels (grpOf l r):=⟨_,rfl⟩
          rw [←hLV]at s6 HNU hlvl
          obtain⟨pn,cn,rfl,_,_,hpn⟩:=s6.form
          obtain⟨Q,hQ⟩ : ∃Q,Q=LV.length:=⟨_,rfl⟩
          rw [←hQ]at s6 hpn hlvl ⊢
          have HQ:=Lib.hid hQ
          have HPN:=Lib.hid hpn
          have HLVL:=Lib.hid hlvl
          have S6:=Lib.hid (SliceOf.flatOn flat_per (S:=fun b=>(Value.slice pn Q cn).ownBlock=some b) (s6.ext (on_sub _ _)) (fun ad n c e=>by rw [e];rfl))
          have HBN:=Lib.hid (show 0<Q→ ∀b,(Value.slice pn Q cn).ownBlock=some b→wn.heap.size≤b∧b<w6.heap.size from fun h0 b hb=>by
           obtain⟨bn,on_,rfl⟩:=hpn (by decide) h0
           injection hb with hb
           subst hb
           have h1:=(per_at s6 0 (by rw [←hQ];exact h0)).1
           exact⟨(on_some.1 h1).1,cell_lt (on_some.1 h1).2⟩)
          have O6:=Lib.hid (O2.out.ext x6)
          have X6:=Lib.hid ((X3.out.trans XG.out).trans x6)
          have hqb:Q≤20000000:=hlvl
          clear s6 hLV hQ hpn O2 OG XG x6 hlvl OT
          go_wp2_with fail
          clear hd2
          go_loopg [6,68] Q (fun gq vo vq wr=> ∃(q:Nat) (u:Value),q≤Q∧gq=Q - q∧vq = .int .i64 q∧u=vo∧Hid (OwnOf Rep.tup wr (fun k=>k<w2.heap.size) w2.heap.size 96 u (OL++(LV.take q).map (tupOf r)))∧Hid (∀b,Value.ownBlock u=some b→0<Q→ ¬(Value.slice pn Q cn).ownBlock=some b)∧Hid (SliceOf Rep.per (on wr fun b=>(Value.slice pn Q cn).ownBlock=some b) (.slice pn Q cn) LV)∧Hid (Ext w2 wr)∧Hid (w6.heap.size≤wr.heap.size))
          case atStart=>exact⟨0,_,by omega,rfl,rfl,rfl,by show OwnOf _ _ _ _ _ _ _;rw [List.take_zero,List.map_nil,List.append_nil];exact O6.out,(fun b hb h0 hs=>by have h1:=HUO.out b hb;have h2:=(HBN.out h0 b hs).1;omega),S6.out,X6.out,Nat.le_refl _⟩
          case round =>
           clear S6 O6 X6
           obtain⟨q,u,hq,rfl,rfl,rfl,OU,HNE,SN,X7,Z7⟩:=hrel
           by_cases hltq:q<Q
           ·    have hql:q<LV.length:=by have:=HQ.out;omega
                have hd3:decide ((q:Int)<(Q:Int))=true:=by simp;omega
                have HBN1:=Lib.hid (fun b hb=>HBN.out (by omega) b hb)
                have HNE1:=Lib.hid (fun b hb=>HNE.out b hb (by omega))
                obtain⟨bn,on_,rfl⟩:=HPN.out (by decide) (by omega)
                have hsv:=SN.out
                rw [HQ.out]at hsv
                obtain⟨c0,c1,r0,r1⟩:=per_at hsv q hql
                replace c0:=(on_some.1 c0).2
                replace c1:=(on_some.1 c1).2
                have hstp:OL++(LV.take (q+1)).map (tupOf r)=(OL++(LV.take q).map (tupOf r)) ++ [⟨r.vals,LV[q].from_,LV[q].to_,r.lin⟩]:=by
                 rw [List.take_succ_eq_append_getElem hql,List.map_append,←List.append_assoc]
                 rfl
                have hol:(OL++(LV.take q).map (tupOf r)).length≤400020000000:=by
                 rw [List.length_append,List.length_map,List.length_take]
                 have h1:=HTL.out
                 have h2:k*20000000≤20000*20000000:=Nat.mul_le_mul_right _ (by omega)
                 omega
                obtain⟨T,hT⟩ : ∃T,T=OL++(LV.take q).map (tupOf r):=⟨_,rfl⟩
                rw [←hT]at OU hstp hol
                generalize LV[q]=pp at c0 c1 r0 r1 hstp
                obtain⟨pf,pt⟩:=pp
                dsimp only at c0 c1 r0 r1 hstp
                have HSTP:=Lib.hid hstp
                have HPQ:=Lib.hid (And.intro r0 r1)
                have HOL:=Lib.hid hol
                obtain⟨pu,cu,hu,_⟩:=OU.out.slice.form
                subst hu
                obtain⟨n9,hn9⟩ : ∃n,n=T.length:=⟨_,rfl⟩
                have HUL:=Lib.hid (fun b hb=>OU.out.lt b hb)
                rw [←hn9]at OU HNE1 HUL ⊢
                have HN9:=Lib.hid hn9
                have B1:T.length+1≤maxLen:=by have:=HOL.out;unfold maxLen;omega
                have B2:(T.length+1)*64≤140737488355328:=by have:=HOL.out;omega
                have e0:=cell_lt c0
                have d0:=X7.out.at D0.out.1
                have d1:=X7.out.at D0.out.2
                clear hsv hql hstp hol r0 r1 hT hn9
                go_wp2_with fail
                have xn:=(Ext.refl wr).alloc (.cells #[.int .i64 pf,.int .i64 pt] 94)
                have b0:(wr.alloc (.cells #[.int .i64 pf,.int .i64 pt] 94)).cell? ⟨wr.heap.size,0,none⟩=some (.int .i64 pf):=by go_simp
                have b1:(wr.alloc (.cells #[.int .i64 pf,.int .i64 pt] 94)).cell? ⟨wr.heap.size,1,none⟩=some (.int .i64 pt):=by go_simp
                replace d0:=xn.at d0
                replace d1:=xn.at d1
                generalize (wr.alloc (.cells #[.int .i64 pf,.int .i64 pt] 94))=w8 at xn b0 b1 d0 d1 ⊢
                have hS0:Ext w2 w8.drew∧w8.drew.cell? ⟨br,orr+k*2,none⟩=some (.slice pra nra kra)∧w8.drew.cell? ⟨br,orr+k*2+1,none⟩=some (.slice prb nrb krb)∧w8.drew.cell? ⟨wr.heap.size,0,none⟩=some (.int .i64 pf)∧w8.drew.cell? ⟨wr.heap.size,1,none⟩=some (.int .i64 pt):=⟨(X7.out.trans xn).drew,d0,d1,b0,b1⟩
                have XN:=Lib.hid xn
                have HZ8:=Lib.hid (show wr.heap.size<w8.heap.size from cell_lt b0)
                have OV:=Lib.hid (fun o=>OU.out.ext (XN.out.drew.alloc o))
                have OV2:=Lib.hid (fun o=>OU.out.ext (XN.out.alloc o).drew)
                have HDAT:=Lib.hid (fun(wz:World) (hx:Ext w2 wz) (ho:OwnOf Rep.tup wz (fun k=>k<w2.heap.size) w2.heap.size 96 (.slice pu n9 cu) T)=>(by
                 have hs:=(full_on w2 (fun k=>k<w2.heap.size) fun _ h=>h).trans (old_avoid hx ho)
                 exact⟨_,_,rfl,Q0.out.ext hs,Q1.out.ext hs,HPQ.out.1,HPQ.out.2⟩:Rep.tup.holds (on wz (avoid (fun k=>k<w2.heap.size) (.slice pu n9 cu))) [.slice pra nra kra,.int .i64 pf,.int .i64 pt,.slice prb nrb krb] ⟨r.vals,pf,pt,r.lin⟩))
                clear c0 c1 e0 xn b0 b1 d0 d1
                go_region_held3 (fun w'=>Ext w2 w'∧w'.cell? ⟨br,orr+k*2,none⟩=some (.slice pra nra kra)∧w'.cell? ⟨br,orr+k*2+1,none⟩=some (.slice prb nrb krb)∧w'.cell? ⟨wr.heap.size,0,none⟩=some (.int .i64 pf)∧w'.cell? ⟨wr.heap.size,1,none⟩=some (.int .i64 pt))
                 (first |with_reducible assumption | with_reducible exact keepE4 (by assumption) ((Ext.refl _).alloc _))
                 (first
                  |(refine step_append_one Rep.tup (fun k=>k<w2.heap.size) rfl _ _ 22 rfl w2.heap.size 96 i1 _ 64 Tryz.underlying22 hi1 hz10 hz11 hz12 rfl (by decide) (.slice pu n9 cu) T rfl (by first | exact OV.out _ | exact OV2.out _) ⟨_,0,none⟩ 1 ⟨r.vals,pf,pt,r.lin⟩ [.slice pra nra kra,.int .i64 pf,.int .i64 pt,.slice prb nrb krb] rfl (by first | exact HDAT.out _ (hS0.1.alloc _) (OV.out _) | exact HDAT.out _ ((X7.out.trans XN.out).alloc _).drew (OV2.out _)) (cells_new _ [.slice pra nra kra,.int .i64 pf,.int .i64 pt,.slice prb nrb krb] _) B1 B2 (by first | exact(hS0.1.alloc _).size | exact((X7.out.trans XN.out).alloc _).drew.size) ?_;intro g9 c9 w9 own9 gr9 hat9;have K9:=keepX4 (by first | exact keepE4 hS0 ((Ext.refl _).alloc _) | exact hS0) gr9 (fun b hb=>(HUL.out b hb).1) (fun b hb=>by have h1:=HUL.out b hb;have h2:=HBL.out;exact⟨by omega,by omega,by omega,by omega⟩);have OW9:=Lib.hid own9;have GR9:=Lib.hid gr9;have HAT9:=Lib.hid hat9;clear own9)
                  |fail)
                all_goals
                 have X12:=Lib.hid K9.1
                 clear hS0
                 have SN9:=Lib.hid ((SN.out.ext ((XN.out.drew.alloc _).sub _)).ext (grown_sub GR9.out fun b hb e=>HNE1.out b e.symm hb))
                 have Z9:=Lib.hid (Nat.le_trans Z7.out (Nat.le_trans (XN.out.drew.alloc (.cells #[.slice pra nra kra,.int .i64 pf,.int .i64 pt,.slice prb nrb krb] 96)).size GR9.out.size))
                 have HNE9:=Lib.hid (show ∀b,(Value.slice (some ⟨g9,0,none⟩) (T.length+1) c9).ownBlock=some b→0<Q→ ¬(Value.slice (some ⟨bn,on_,none⟩) Q cn).ownBlock=some b from fun b hb _ hs=>by
                  injection hb with hb
                  injection hs with hs
                  have hgb:g9=bn:=(show g9=b from hb).trans (show bn=b from hs).symm
                  rcases HAT9.out with h | h
                  ·exact HNE1.out g9 h (by rw [hgb];rfl)
                  ·have h2:=(HBN1.out bn rfl).2
                   have h3:=Z7.out
                   have h4:=HZ8.out
                   try rw [alloc_size]at h
                   have h5:w8.heap.size≤g9:=by rw [h];first | exact Nat.le_refl _ | exact Nat.le_succ _ | simp
                   omega)
                 go_wp2_with fail
                 go_roundg (Q - (q+1))
                 case measure=>omega
                 case rel=>exact⟨q+1,_,by omega,rfl,by go_num,rfl,by show OwnOf _ _ _ _ _ _ _;rw [HSTP.out];exact OW9.out,HNE9.out,SN9.out,X12.out,Z9.out⟩
           ·    have hqQ:q=Q:=by omega
                have hd3 : ¬(q:Int)<(Q:Int):=by omega
                have HFIN:=Lib.hid (show OL++(LV.take q).map (tupOf r)=refNU R l (k+1)from by rw [HNU.out,hqQ,HQ.out,List.take_length])
                have HTL2:=Lib.hid (show (refNU R l (k+1)).length≤(k+1)*20000000 from by
                 rw [HNU.out,List.length_append,List.length_map,←HQ.out]
                 have h1:=HTL.out
                 have h2:=HLVL.out
                 omega)
                clear hqQ
                go_wp2_with fail
                go_roundg (n - (k+1))
                case measure=>omega
                case rel=>exact⟨k+1,_,by omega,rfl,by go_num,rfl,by show OwnOf _ _ _ _ _ _ _;rw [←HFIN.out];exact OU.out,HTL2.out,X7.out⟩
       ·have HSK:=Lib.hid (refNU_skip (R:=R) (l:=l) (HEQ.out.1 rfl))
        go_wp2_with fail
        go_roundg (n - (k+1))
        case measure=>omega
        case rel=>exact⟨k+1,_,by omega,rfl,by go_num,rfl,by show OwnOf _ _ _ _ _ _ _;rw [HSK.out];exact OT2.out,(by show (refNU R l (k+1)).length≤_;rw [HSK.out];exact Nat.le_trans HTL.out (Nat.mul_le_mul_right _ (Nat.le_succ k))),X32.out⟩
    ·have hkn:k=n:=by omega
     have hd : ¬(k:Int)<(n:Int):=by omega
     have HF:=Lib.hid (show refNU R l k=normT l from by rw [hkn];exact HNORM.out)
     clear hkn
     go_wp2_with fail
     go_ret
     exact⟨u,rfl,by rw [←HF.out];exact OT.out.slice,X2.out.trans X3.out⟩
end Go.Proofs.YtkddkbpoefidpaaGreatDoor
namespace Go.Proofs.YtkddkbpoefidpaaGreatDoor
open Go.RowKit
def updF {α:Type} (f:Nat→α) (i:Nat) (v:α):Nat→α:=fun j=>if j=i then v else f j
theorem updF_same {α:Type} (f:Nat→α) (i:Nat) (v:α):updF f i v i=v:=if_pos rfl
theorem updF_other {α:Type} (f:Nat→α) {i j:Nat} (v:α) (h:j≠i):updF f i v j=f j:=if_neg h
theorem OwnOf.set {α:Type} {R:Rep α} {w:World} {S:Nat→Prop} {base:Nat} {e:TypeId} {v:Value} {xs:List α} (h:OwnOf R w S base e v xs) {p:Addr} (u:Value) (hp:p.block<base) (hS : ¬S p.block):OwnOf R (w.setCell p u) S base e v xs:=by
 have hb:=h.base
 obtain⟨css,h1,h2⟩:=h
 exact⟨css,h1.ext (set_sub w p u fun hh=>hS hh.2),(chg_set w p u).own h2 fun k hk e=>by have:=hb k hk;omega⟩
structure Fam {α:Type} (R:Rep α) (w:World) (S:Nat→Prop) (base:Nat) (e:TypeId) (n:Nat) (f:Nat→Value) (xs:Nat→List α):Prop where
 own : ∀i,i<n→OwnOf R w S base e (f i) (xs i)
 ap : ∀i j,i<n→j<n→i≠j→Apart (f i) (f j)
section
variable {α:Type} {R:Rep α} {w w':World} {S:Nat→Prop} {base:Nat} {e:TypeId} {n:Nat} {f:Nat→Value} {xs:Nat→List α}
theorem Fam.ext (h:Fam R w S base e n f xs) (hx:Ext w w'):Fam R w' S base e n f xs:=⟨fun i hi=>(h.own i hi).ext hx,h.ap⟩
theorem Fam.keep (h:Fam R w S base e n f xs) {row:Option Nat} (gr:w.grownBy w' row) (hS : ∀k,S k→row≠some k) (hv : ∀i k,i<n→(f i).ownBlock=some k→row≠some k):Fam R w' S base e n f xs :=
 ⟨fun i hi=>own_grown (h.own i hi) gr hS fun k hk=>hv i k hi hk,h.ap⟩
theorem Fam.set (h:Fam R w S base e n f xs) {p:Addr} (u:Value) (hp:p.block<base) (hS : ¬S p.block):Fam R (w.setCell p u) S base e n f xs:=⟨fun i hi=>(h.own i hi).set u hp hS,h.ap⟩
theorem Fam.step (h:Fam R w S base e n f xs) {i:Nat} (hi:i<n) {g a b:Nat} {ys:List α} (own:OwnOf R w' S base e (.slice (some ⟨g,0,none⟩) a b) ys) (gr:w.grownBy w' (f i).ownBlock) (hg:(f i).ownBlock=some g∨g=w.heap.size) (hS : ∀k,S k→(f i).ownBlock≠some k) :
  Fam R w' S base e n (updF f i (.slice (some ⟨g,0,none⟩) a b)) (updF xs i ys):=by
 refine⟨fun j hj=> ?_,fun j k hj hk hne=> ?_⟩
 ·by_cases c:j=i
  ·subst c;rw [updF_same,updF_same];exact own
  ·rw [updF_other _ _ c,updF_other _ _ c]
   exact own_grown (h.own j hj) gr hS fun x hx e=>h.ap j i hj hi c x hx e
 ·by_cases c:j=i
  ·subst c
   rw [updF_same,updF_other _ _ (fun e=>hne e.symm)]
   exact((h.ap k j hk hj (fun e=>hne e.symm)).grow (fun x hx=>((h.own k hk).lt x hx).2) hg).symm
  ·rw [updF_other _ _ c]
   by_cases c2:k=i
   ·subst c2
    rw [updF_same]
    exact(h.ap j k hj hk c).grow (fun x hx=>((h.own j hj).lt x hx).2) hg
   ·rw [updF_other _ _ c2];exact h.ap j k hj hk hne
end
def Off (f:Nat→Value) (n pb:Nat) (k:Nat):Prop:=k≠pb∧ ∀i,i<n→(f i).ownBlock≠some k
theorem off_step {α:Type} {R:Rep α} {w w':World} {base:Nat} {e:TypeId} {n pb:Nat} {f:Nat→Value} {u:Value} {ys:List α} (h:OwnOf R w (Off f n pb) base e u ys) {i:Nat} (hi:i<n) {g a b:Nat} (gr:w.grownBy w' (f i).ownBlock) (hg:(f i).ownBlock=some g∨g=w.heap.size) (hu:Apart u (f i)) :
  OwnOf R w' (Off (updF f i (.slice (some ⟨g,0,none⟩) a b)) n pb) base e u ys:=by
 have h1:OwnOf R w (fun k=>Off f n pb k∧Off (updF f i (.slice (some ⟨g,0,none⟩) a b)) n pb k) base e u ys:=h.weak (fun k hk hS=>⟨hS,hS.1,fun j hj=>by
  by_cases c:j=i
  ·subst c
   rw [updF_same]
   intro e
   have e:g=k:=Option.some.inj e
   rcases hg with h | h
   ·exact hS.2 j hj (by rw [h,e])
   ·omega
  ·rw [updF_other _ _ c];exact hS.2 j hj⟩) (Nat.le_refl _)
 have h2:=own_grown h1 gr (fun k hk=>hk.1.2 i hi) (fun k hk e=>hu k hk e)
 exact h2.weak (fun k _ hS=>hS.2) (Nat.le_refl _)
end Go.Proofs.YtkddkbpoefidpaaGreatDoor
namespace Go.Proofs.YtkddkbpoefidpaaGreatDoor
open Go.RowKit
structure MInv (w:World) (pb n base:Nat) (T1 T2:TypeId) (f:Nat→Value) (u:Value) (js:List Tup) (ps:Nat→List Per):Prop where
 fam:Fam Rep.per w (fun _=>False) base T1 n f ps
 out:OwnOf Rep.tup w (Off f n pb) base T2 u js
 cell : ∀i,i<n→w.cell? ⟨pb,i,none⟩=some (f i)
 free : ∀i,i<n→w.frozen? ⟨pb,i,none⟩=false
 ap : ∀i,i<n→Apart u (f i)
 lo:pb<base
 hi:base≤w.heap.size
section
variable {w w':World} {pb n base:Nat} {T1 T2:TypeId} {f:Nat→Value} {u:Value} {js:List Tup} {ps:Nat→List Per}
theorem MInv.ext (h:MInv w pb n base T1 T2 f u js ps) (hx:Ext w w'):MInv w' pb n base T1 T2 f u js ps :=
 ⟨h.fam.ext hx,h.out.ext hx,fun i hi=>hx.at (h.cell i hi),fun i hi=>hx.unfrozen (h.cell i hi) (h.free i hi),h.ap,h.lo,Nat.le_trans h.hi hx.size⟩
theorem MInv.push (h:MInv w pb n base T1 T2 f u js ps) {g a b:Nat} {ys:List Tup} (own:OwnOf Rep.tup w' (Off f n pb) base T2 (.slice (some ⟨g,0,none⟩) a b) ys) (gr:w.grownBy w' u.ownBlock) (hg:u.ownBlock=some g∨g=w.heap.size) :
  MInv w' pb n base T1 T2 f (.slice (some ⟨g,0,none⟩) a b) ys ps:=by
 have hpb : ∀k,u.ownBlock=some k→k≠pb:=fun k hk e=>by have:=h.out.base k hk;have:=h.lo;omega
 refine⟨h.fam.keep gr (fun k hk=>hk.elim) (fun i k hi hk e=>h.ap i hi k e hk),own,fun i hi=>cell_grown gr (h.cell i hi) hpb,fun i hi=> ?_,fun i hi=> ?_,h.lo,Nat.le_trans h.hi gr.size⟩
 ·exact(World.frozen?_of_block (w:=w) (gr.block pb (cell_lt (h.cell i hi)) fun e=>hpb pb e.symm rfl)).trans (h.free i hi)
 ·exact((h.ap i hi).symm.grow (fun x hx=>((h.fam.own i hi).lt x hx).2) hg).symm
theorem MInv.part (h:MInv w pb n base T1 T2 f u js ps) {i:Nat} (hi:i<n) {g a b:Nat} {ys:List Per} (own:OwnOf Rep.per w' (fun _=>False) base T1 (.slice (some ⟨g,0,none⟩) a b) ys) (gr:w.grownBy w' (f i).ownBlock) (hg:(f i).ownBlock=some g∨g=w.heap.size) :
  MInv (w'.setCell ⟨pb,i,none⟩ (.slice (some ⟨g,0,none⟩) a b)) pb n base T1 T2 (updF f i (.slice (some ⟨g,0,none⟩) a b)) u js (updF ps i ys):=by
 have hpb : ∀k,(f i).ownBlock=some k→k≠pb:=fun k hk e=>by have:=(h.fam.own i hi).base k hk;have:=h.lo;omega
 have hc : ∀j,j<n→w'.cell? ⟨pb,j,none⟩=some (f j):=fun j hj=>cell_grown gr (h.cell j hj) hpb
 refine⟨(h.fam.step hi own gr hg (fun k hk=>hk.elim)).set _ h.lo (fun h=>h),(off_step h.out hi gr hg (h.ap i hi)).set _ h.lo (fun h=>h.1 rfl),fun j hj=> ?_,fun j hj=> ?_,fun j hj=> ?_,h.lo,?_⟩
 ·by_cases c:j=i
  ·subst c
   rw [updF_same]
   exact World.cell?_setCell_same' _ _ _ (by rw [hc j hj];rfl)
  ·rw [updF_other _ _ c,World.cell?_setCell_other _ _ _ _ (by simp;try omega)]
   exact hc j hj
 ·rw [World.frozen?_setCell]
  exact(World.frozen?_of_block (w:=w) (gr.block pb (cell_lt (h.cell j hj)) fun e=>hpb pb e.symm rfl)).trans (h.free j hj)
 ·by_cases c:j=i
  ·subst c
   rw [updF_same]
   exact(h.ap j hj).grow (fun x hx=>(h.out.lt x hx).2) hg
  ·rw [updF_other _ _ c];exact h.ap j hj
 ·exact Nat.le_trans h.hi (Nat.le_trans gr.size ((chg_set w' ⟨pb,i,none⟩ _).size))
theorem rep_fam {α:Type} {R:Rep α} {h:View} {f:Nat→Value} {xs:Nat→List α} (n:Nat) (k : ∀i,i<n→SliceOf R h (f i) (xs i)):RepAll (Rep.slice R) h ((List.range n).map fun i=> [f i]) ((List.range n).map xs):=by
 induction n with
 |zero=>trivial
 |succ n ih =>
  rw [List.range_succ,List.map_append,List.map_append]
  exact(ih fun i hi=>k i (by omega)).append (RepAll.one ⟨_,rfl,k n (by omega)⟩)
theorem flat_sing {α β:Type} (f:α→β) (l:List α):l.flatMap (fun i=> [f i])=l.map f:=by
 induction l with
 |nil=>rfl
 |cons x l ih=>rw [List.flatMap_cons,ih];rfl
theorem MInv.parts (h:MInv w pb n base T1 T2 f u js ps) (hn:n≤maxLen):SliceOf (Rep.slice Rep.per) (on w (fun k=>u.ownBlock≠some k)) (.slice (some ⟨pb,0,none⟩) n n) ((List.range n).map ps):=by
 have hpb:u.ownBlock≠some pb:=fun e=>by have:=h.out.base pb e;have:=h.lo;omega
 refine⟨_,rep_fam n (f:=f) fun i hi=>SliceOf.flatOn flat_per (h.fam.own i hi).slice fun ad m c e=>fun e2=>h.ap i hi ad.block e2 (by rw [e];rfl),?_⟩
 rw [List.length_map,List.length_range]
 refine .inr ⟨_,n,rfl,Nat.le_refl _,hn,.inr ⟨pb,0,rfl,fun j v hj=>on_some.2 ⟨hpb,?_⟩⟩⟩
 have e:((List.range n).map fun i=> [f i]).flatten=(List.range n).map f:=by
  rw [←List.flatMap_def]
  exact flat_sing f _
 rw [e,List.getElem?_map]at hj
 rw [Nat.zero_add]
 by_cases c:j<n
 ·rw [List.getElem?_range c]at hj
  have:f j=v:=by simpa using hj
  rw [←this]
  exact h.cell j c
 ·rw [List.getElem?_eq_none (by simpa using c)]at hj
  cases hj
end
def joinUpto (tr:List Val→Bool) (a b:List Tup) (L:List Pair) (k:Nat):List Tup:=((L.take k).map (pairT a b)).filter fun t=>tr t.vals
def partUpto (tr:List Val→Bool) (a b:List Tup) (L:List Pair) (k i:Nat):List Per:=((L.take k).filter fun p=>decide (p.a=i)&&tr (pairT a b p).vals).map fun p=>⟨p.from_,p.to_⟩
theorem joinUpto_snoc (tr:List Val→Bool) (a b:List Tup) (L:List Pair) (k:Nat) (h:k<L.length):joinUpto tr a b L (k+1)=joinUpto tr a b L k++if tr (pairT a b L[k]).vals=true then [pairT a b L[k]]else []:=by
 unfold joinUpto
 rw [List.take_succ_eq_append_getElem h,List.map_append,List.filter_append,List.map_cons,List.map_nil,List.filter_cons,List.filter_nil]
theorem joinUpto_no (tr:List Val→Bool) (a b:List Tup) (L:List Pair) (k:Nat) (h:k<L.length) (hn:tr (pairT a b L[k]).vals=false):joinUpto tr a b L (k+1)=joinUpto tr a b L k:=by
 rw [joinUpto_snoc tr a b L k h,if_neg (by rw [hn];decide),List.append_nil]
theorem joinUpto_yes (tr:List Val→Bool) (a b:List Tup) (L:List Pair) (k:Nat) (h:k<L.length) (hn:tr (pairT a b L[k]).vals=true):joinUpto tr a b L (k+1)=joinUpto tr a b L k ++ [pairT a b L[k]]:=by
 rw [joinUpto_snoc tr a b L k h,if_pos hn]
theorem joinUpto_len (tr:List Val→Bool) (a b:List Tup) (L:List Pair) (k:Nat):(joinUpto tr a b L k).length≤L.length:=by
 unfold joinUpto
 refine Nat.le_trans (List.length_filter_le _ _) ?_
 rw [List.length_map]
 exact List.length_take_le' _ _
theorem partUpto_len (tr:List Val→Bool) (a b:List Tup) (L:List Pair) (k i:Nat):(partUpto tr a b L k i).length≤L.length:=by
 unfold partUpto
 rw [List.length_map]
 exact Nat.le_trans (List.length_filter_le _ _) (List.length_take_le' _ _)
theorem partUpto_no (tr:List Val→Bool) (a b:List Tup) (L:List Pair) (k:Nat) (h:k<L.length) (hn:tr (pairT a b L[k]).vals=false):partUpto tr a b L (k+1)=partUpto tr a b L k:=by
 funext i
 unfold partUpto
 rw [List.take_succ_eq_append_getElem h,List.filter_append,List.map_append,List.filter_cons,List.filter_nil,hn,Bool.and_false,if_neg (by decide)]
 simp
theorem partUpto_yes (tr:List Val→Bool) (a b:List Tup) (L:List Pair) (k:Nat) (h:k<L.length) (hy:tr (pairT a b L[k]).vals=true):partUpto tr a b L (k+1)=updF (partUpto tr a b L k) L[k].a (partUpto tr a b L k L[k].a ++ [⟨L[k].from_,L[k].to_⟩]):=by
 funext i
 by_cases c:i=L[k].a
 ·subst c
  rw [updF_same]
  unfold partUpto
  rw [List.take_succ_eq_append_getElem h,List.filter_append,List.map_append,List.filter_cons,List.filter_nil,hy,Bool.and_true,if_pos (by simp)]
  rfl
 ·rw [updF_other _ _ c]
  unfold partUpto
  rw [List.take_succ_eq_append_getElem h,List.filter_append,List.map_append,List.filter_cons,List.filter_nil,if_neg (by simp;omega)]
  simp
end Go.Proofs.YtkddkbpoefidpaaGreatDoor
namespace Go.Proofs
open Go.Shelf
def Tryz.growVal_ren:Go.Shelf.Ren:=⟨fun | 4=>131 | n=>n,fun | 22=>68 | 25=>73 | 3=>3 | 4=>4 | 9=>9 | 20=>20 | 0=>0 | n=>n,fun | n=>n⟩
theorem Tryz.growVal:Go.Proofs.Lays8.n4 Tryz.prog Tryz.growVal_ren:= {
 mixed:=by kernel_rfl
 f4:=⟨Tryz.f131.name,by decide,Tryz.func131.trans (congrArg some (by kernel_rfl))⟩
 t0:=Tryz.underlying0
 a0:=Tryz.isAgg0
 z0:=Tryz.sizeOf0
 v0:=Tryz.zeroValue0
 t3:=Tryz.underlying3
 a3:=Tryz.isAgg3
 z3:=Tryz.sizeOf3
 v3:=Tryz.zeroValue3
 t4:=Tryz.underlying4
 a4:=Tryz.isAgg4
 z4:=Tryz.sizeOf4
 v4:=Tryz.zeroValue4
 t9:=Tryz.underlying9
 a9:=Tryz.isAgg9
 z9:=Tryz.sizeOf9
 v9:=Tryz.zeroValue9
 t20:=Tryz.underlying20
 a20:=Tryz.isAgg20
 z20:=Tryz.sizeOf20
 v20:=Tryz.zeroValue20
 t22:=Tryz.underlying68
 a22:=Tryz.isAgg68
 z22:=Tryz.sizeOf68
 v22:=Tryz.zeroValue68 }
def Tryz.growTup_ren:Go.Shelf.Ren:=⟨fun | 4=>128 | n=>n,fun | 22=>22 | 25=>96 | 3=>3 | 4=>4 | 9=>9 | 20=>20 | 0=>0 | n=>n,fun | n=>n⟩
theorem Tryz.growTup:Go.Proofs.Lays8.n4 Tryz.prog Tryz.growTup_ren:= {
 mixed:=by kernel_rfl
 f4:=⟨Tryz.f128.name,by decide,Tryz.func128.trans (congrArg some (by kernel_rfl))⟩
 t0:=Tryz.underlying0
 a0:=Tryz.isAgg0
 z0:=Tryz.sizeOf0
 v0:=Tryz.zeroValue0
 t3:=Tryz.underlying3
 a3:=Tryz.isAgg3
 z3:=Tryz.sizeOf3
 v3:=Tryz.zeroValue3
 t4:=Tryz.underlying4
 a4:=Tryz.isAgg4
 z4:=Tryz.sizeOf4
 v4:=Tryz.zeroValue4
 t9:=Tryz.underlying9
 a9:=Tryz.isAgg9
 z9:=Tryz.sizeOf9
 v9:=Tryz.zeroValue9
 t20:=Tryz.underlying20
 a20:=Tryz.isAgg20
 z20:=Tryz.sizeOf20
 v20:=Tryz.zeroValue20
 t22:=Tryz.underlying22
 a22:=Tryz.isAgg22
 z22:=Tryz.sizeOf22
 v22:=Tryz.zeroValue22 }
end Go.Proofs
