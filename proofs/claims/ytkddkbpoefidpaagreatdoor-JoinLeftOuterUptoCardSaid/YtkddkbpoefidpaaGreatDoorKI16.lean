/- joined texts of a proof: PairX, Open, DepthX, NormA, DepR, DepS -/
import Derived.Test.YtkddkbpoefidpaaGreatDoorKI14
import Derived.Test.YtkddkbpoefidpaaGreatDoorKI03
import Derived.Test.YtkddkbpoefidpaaGreatDoorKI13
import Derived.Test.YtkddkbpoefidpaaGreatDoorKI15
import Derived.Test.YtkddkbpoefidpaaGreatDoorKI01
import Derived.ProofKit
import Derived.OpenShut
import Derived.Deep.Strs
import Derived.Lib.SmallJoins
import Derived.Test.YtkddkbpoefidpaaGreatDoorKI05
import Derived.Test.YtkddkbpoefidpaaGreatDoorKI06
import Derived.Maps.Own
import Derived.Maps.OwnOps
import Derived.Maps.RangeWalk
import Derived.Maps.Views
import Derived.Test.YtkddkbpoefidpaaGreatDoorKI04
import Derived.Test.YtkddkbpoefidpaaGreatDoorKI02
namespace Go.Proofs.YtkddkbpoefidpaaGreatDoor
open Go.RowKit Go.Shelf Go.Sort
theorem info_ev:(Tryz.prog.info? 246).map (fun i=>(i.zero,i.size,i.bytes))=some (some (.agg #[.int .i64 0,.int .i64 0,.int .i64 0]),Rep.ev.size,24):=by kernel_rfl
theorem lone_flat {α:Type} {R:Rep α} (hR:R.flat) {w:World} {v:Value} {cs:List Value} {x:α} {xs:List α} {S:Nat→Prop} {base:Nat} {e T:TypeId} (hr:R.holds w.cell? cs x) (own:OwnOf R w S base e v xs) :
  SliceOf R (on (w.alloc (.cells cs.toArray T)) (avoid (fun _=>True) v)) (.slice (some ⟨w.heap.size,0,none⟩) 1 1) [x] :=
 flat_lone _ _ cs x (hR _ _ _ _ hr) fun j u hj=>on_some.2 ⟨⟨fun e=>Nat.lt_irrefl _ (own.lt _ e.symm).2,trivial⟩,by
  have:=cells_new w cs T j u hj
  rwa [add_lit,Nat.zero_add]at this⟩
set_option maxRecDepth 100000 in
set_option maxHeartbeats 4000000 in
theorem starts_any (v:Value) (l:List Tup) (c:Bool) (w:World) (hv:SliceOf Rep.tup w.cell? v l) (hl:l.length≤1000) :
  Calls Tryz.prog 175 #[v,.int .i64 (sideI c)] w fun e w'=> ∃v',e = .returned v'∧OwnOf Rep.ev w' (fun _=>True) w.heap.size 246 v' (starts c l)∧Ext w w':=by
 obtain⟨i0,hi,hz0,hz1,hz2⟩:=info_parts info_ev
 obtain⟨p,cap,rfl,hc1,hc2,hp⟩:=hv.form
 unfold maxLen at hc2
 obtain⟨N,hN⟩ : ∃N,N=l.length:=⟨_,rfl⟩
 obtain⟨sc,hsc⟩ : ∃sc,sc=sideI c:=⟨_,rfl⟩
 have HV:=Lib.hid hv
 rw [←hN,←hsc]
 have HN:=Lib.hid hN
 have HSC:=Lib.hid hsc
 have HP:=Lib.hid hp
 have hNl:N≤1000:=by omega
 clear hv hN hsc hp hc1
 go_enter Tryz.func175,Tryz.ntmps175
 go_wp2_with fail
 go_loopg [5,10] N (fun gk vo vi wr=> ∃(k:Nat) (u:Value),k≤N∧gk=N - k∧vi = .int .i64 k∧u=vo∧Hid (OwnOf Rep.ev wr (fun _=>True) w.heap.size 246 u (starts c (l.take k)))∧Ext w wr)
 case atStart=>exact⟨0,_,by omega,rfl,rfl,rfl,OwnOf.nil _ _ _ _ _,Ext.refl w⟩
 case round =>
  obtain⟨k,u,hk,rfl,rfl,rfl,OW,hx⟩:=hrel
  by_cases hlt:k<N
  ·have hkl:k<l.length:=by have:=HN.out;omega
   obtain⟨b,o,rfl⟩:=HP.out (by decide) (by omega)
   have hv:=HV.out
   rw [←HN.out]at hv
   obtain⟨ta,tb,c0,c1,c2,c3,g0,g1,r1,r2⟩:=tup_at hv k hkl
   obtain⟨pa,ka,ta',_⟩:=g0.form
   obtain⟨pb,kb,tb',_⟩:=g1.form
   subst ta' tb'
   replace c0:=hx.at c0
   replace c1:=hx.at c1
   replace c2:=hx.at c2
   replace c3:=hx.at c3
   have hst:=starts_take c l k hkl
   have hok:okS (⟨c,k,l[k].from_,l[k].to_⟩:Ev):=⟨by show k≤1048576;omega,r1⟩
   have hlen:=starts_len c (l.take k)
   have hlen2:(starts c (l.take k)).length≤1000:=by simp at hlen;omega
   generalize l[k].from_=f at c1 hst hok
   generalize l[k].to_=t at c2 hst hok
   generalize l[k].vals.length=na at c0
   generalize l[k].lin.length=nb at c3
   have HST:=Lib.hid hst
   have HOK:=Lib.hid hok
   have HL:=Lib.hid hlen2
   have hd:decide ((k:Int)<(N:Int))=true:=by simp;omega
   have e0:=cell_lt c0
   clear hst hok g0 g1 r1 r2 hv hlen hlen2
   go_wp2_with fail
   refine(valid_any f t _).mono ?_
   rintro e w1 ⟨rfl,hx1⟩
   have d1:w1.cell? ⟨wr.heap.size,1,none⟩=some (.int .i64 f):=hx1.at (by go_simp)
   have hx2:Ext wr w1:=((Ext.refl wr).alloc _).trans hx1
   clear hx1 c0 c1 c2 c3 e0
   cases hvb:validB f t with
   |true =>
    have HVB:=Lib.hid hvb
    clear hvb
    have B1:(starts c (l.take k)).length + [(⟨c,k,f,t⟩:Ev)].length≤maxLen:=by simp [maxLen];have:=HL.out;omega
    have B2:((starts c (l.take k)).length + [(⟨c,k,f,t⟩:Ev)].length)*24≤140737488355328:=by simp;have:=HL.out;omega
    go_wp2_with (at_builtin;refine wpList_append_all Rep.ev (fun _=>True) rfl _ _ 243 rfl w.heap.size 246 i0 _ 24 Tryz.underlying243 hi hz0 hz1 hz2 rfl (by decide) u (starts c (l.take k)) rfl (by exact OW.out.ext (hx2.alloc _)) _ [⟨c,k,f,t⟩] rfl (by have h:=lone_flat (T:=246) (cs:=evEnc ⟨c,k,f,t⟩) flat_ev ⟨rfl,HOK.out⟩ (OW.out.ext hx2);unfold evEnc at h;rw [←HSC.out]at h;exact h) B1 B2 (by exact Nat.le_trans hx.size (hx2.alloc _).size) ?_)
    intro v' w3 own gr _
    have hxx:Ext w w3:=(hx.trans (hx2.alloc _)).grownNew gr OW.out.base
    have OW2:=Lib.hid own
    clear own gr
    go_wp2_with fail
    go_roundg (N - (k+1))
    case measure=>omega
    case rel=>exact⟨k+1,v',by omega,rfl,by go_num,rfl,by show OwnOf _ _ _ _ _ _ _;rw [HST.out,if_pos HVB.out];exact OW2.out,hxx⟩
   |false =>
    have HVB:=Lib.hid hvb
    clear hvb
    go_wp2_with fail
    go_roundg (N - (k+1))
    case measure=>omega
    case rel=>exact⟨k+1,u,by omega,rfl,by go_num,rfl,by show OwnOf _ _ _ _ _ _ _;rw [HST.out,HVB.out,if_neg (by decide),List.append_nil];exact OW.out.ext hx2,hx.trans hx2⟩
  ·have hkN:k=N:=by omega
   subst hkN
   have hd:decide ((k:Int)<(k:Int))=false:=by simp
   go_wp2_with fail
   go_ret
   exact⟨u,rfl,by have h:=OW.out;rw [HN.out,List.take_length]at h;exact h,hx⟩
end Go.Proofs.YtkddkbpoefidpaaGreatDoor
namespace Go.Proofs.YtkddkbpoefidpaaGreatDoor
open Go.RowKit Go.Shelf
theorem grow_ev (S:Nat→Prop) (n:Nat) (w:World) (hn:n≤1099511627776):Calls Tryz.prog 243 #[.slice none 0 0,.int .i64 n] w fun e w'=> ∃v',e = .returned v'∧OwnOf Rep.ev w' S w.heap.size 246 v' []∧Ext w w':=by
 obtain⟨i0,hi,hz0,hz1,hz2⟩:=info_parts info_ev
 by_cases h0:n=0
 ·subst h0
  refine(Any8.slices_Grow_room Tryz.growEv none 0 0 0 w (Nat.le_refl _) (by omega) (by omega) (by omega)).mono ?_
  rintro e w' ⟨rfl,rfl⟩
  exact⟨_,rfl,OwnOf.nil _ _ _ _ _,Ext.refl _⟩
 ·refine(Any8.slices_Grow_grow Tryz.growEv i0 _ hi hz0 (by rw [hz1];decide) none 0 0 n [] w (Nat.le_refl _) (by omega) (by rw [hz2];omega) (by omega) (by simp) (fun _=>rfl) (fun a h=>by cases h)).mono ?_
  rintro e w' ⟨rfl,rfl⟩
  have hg:=grownCap_ge w (0+n) 0 (Tryz.growEv_ren.t 25)
  have hg2:=grownCap_le_maxLen w (0+n) 0 (Tryz.growEv_ren.t 25) (by unfold maxLen;omega)
  refine⟨_,rfl,⟨[],trivial,?_⟩,(Ext.refl w).drew.alloc _⟩
  refine World.ownsRow_made w.drew _ _ (Nat.le_refl _) hg2 ?_
  generalize grownCap w (0+n) 0 (Tryz.growEv_ren.t 25)=cap at hg
  rw [show Rep.ev.size=3 from rfl]
  simp [size_zeroCells,Value.cells]
  omega
set_option maxHeartbeats 2000000 in
theorem concat_ev (v:Value) (ls:List (List Ev)) (w:World) (hv:SliceOf (Rep.slice Rep.ev) w.cell? v ls) (hbig:ls.flatten.length≤1099511627776) :
  Calls Tryz.prog 174 #[v] w fun e w'=> ∃v',e = .returned v'∧OwnOf Rep.ev w' (fun _=>True) w.heap.size 246 v' ls.flatten∧Ext w w':=by
 obtain⟨i0,hi,hz0,hz1,hz2⟩:=info_parts info_ev
 obtain⟨pa,ca,rfl,ha1,ha2,ha3⟩:=hv.form
 have HV:=Lib.hid hv
 unfold maxLen at ha2
 go_enter Tryz.func174,Tryz.ntmps174
 go_wp2_with fail
 go_loopg [3,11] ls.length (fun gk n i wr=> ∃k m:Nat,k≤ls.length∧gk=ls.length - k∧i = .int .i64 k∧n = .int .i64 m∧m=(ls.take k).flatten.length∧w=wr)
 case atStart=>exact⟨0,0,by omega,rfl,rfl,rfl,by simp,rfl⟩
 case round =>
  obtain⟨k,m,hk,rfl,rfl,rfl,hm,rfl⟩:=hrel
  have hle:=flatten_take_le ls k
  by_cases hlt:k<ls.length
  ·obtain⟨ba,oa,rfl⟩:=ha3 (by decide) (by omega)
   obtain⟨u,c1,s1⟩:=slice_at hv k hlt
   have ht:=flatten_take ls k hlt
   have hle2:=flatten_take_le ls (k+1)
   obtain⟨p1,q1,rfl,hq1,hq2,_⟩:=s1.form
   have hml:(ls.take (k+1)).flatten.length=m+ls[k].length:=by rw [ht,List.length_append,hm]
   rw [hml]at hle2
   rw [←hm]at hle
   generalize ls[k].length=n1 at hml hle2 hq1 c1 s1
   have HL:=Lib.hid hml
   have HM:=Lib.hid hm
   unfold maxLen at hq2
   have hd:decide ((k:Int)<(ls.length:Int))=true:=by simp;omega
   have hd1:(k:Int)<(ls.length:Int):=by omega
   have hd2:decide ((m:Int)+(n1:Int)<0)=false:=by simp;omega
   clear s1 ht hml hm hv ha3
   go_wp2_with fail
   go_roundg (ls.length - (k+1))
   case measure=>omega
   case rel=>exact⟨k+1,m+n1,by omega,rfl,by go_num,by go_num,HL.out.symm,rfl⟩
  ·have:k=ls.length:=by omega
   subst this
   rw [List.take_length]at hm
   have hmb:m≤1099511627776:=by rw [hm];exact hbig
   clear hv hle hm
   have HB:=Lib.hid hbig
   clear hbig
   go_wp2_with fail
   refine(grow_ev (fun _=>True) m _ hmb).mono ?_
   rintro e w1 ⟨v1,rfl,hown,hx⟩
   have HO:=Lib.hid hown
   clear hown
   go_wp2_with fail
   go_loopg [6,27] ls.length (fun gk v i wr=> ∃k:Nat,k≤ls.length∧gk=ls.length - k∧i = .int .i64 k∧OwnOf Rep.ev wr (fun _=>True) w.heap.size 246 v (ls.take k).flatten∧Ext w wr)
   case atStart=>exact⟨0,by omega,rfl,rfl,by simpa using HO.out,hx⟩
   case round =>
    clear HO hx
    obtain⟨k,hk,rfl,rfl,hown,hx⟩:=hrel
    by_cases hlt:k<ls.length
    ·obtain⟨ba,oa,rfl⟩:=ha3 (by decide) (by omega)
     obtain⟨u,c1,s1⟩:=slice_at HV.out k hlt
     have ht:=flatten_take ls k hlt
     have hle2:=flatten_take_le ls (k+1)
     have HO:=Lib.hid hown
     have hbg:=Nat.le_trans hle2 HB.out
     rw [ht,List.length_append]at hbg
     have hsub : ∀v',OwnOf Rep.ev wr (fun _=>True) w.heap.size 246 v' (ls.take k).flatten→Sub w.cell? (on wr (avoid (fun _=>True) v')):=fun v' ho p u e=>by
      have hlt2:=World.block_lt_of_cell? w p e
      refine on_some.2 ⟨⟨fun he=> ?_,trivial⟩,hx.at e⟩
      have:=(ho.lt _ he.symm).1
      omega
     replace s1:=s1.ext (hsub _ hown)
     replace c1:=hx.at c1
     generalize ls[k]=x at s1 ht hbg
     have HT:=Lib.hid ht
     have HG:=Lib.hid hbg
     have S1:=Lib.hid s1
     obtain⟨p1,q1,rfl,hq1,hq2,_⟩:=s1.form
     have hd:decide ((k:Int)<(ls.length:Int))=true:=by simp;omega
     have hd1:(k:Int)<(ls.length:Int):=by omega
     clear s1 ht hbg hown ha3 hle2 hsub
     go_wp2_with (at_builtin;refine wpList_append_all Rep.ev (fun _=>True) rfl _ _ 243 rfl w.heap.size 246 i0 _ 24 Tryz.underlying243 hi hz0 hz1 hz2 rfl (by decide) _ (ls.take k).flatten rfl HO.out _ x rfl S1.out ?c1 ?c2 ?c3 ?_)
     case c1=>have:=HG.out;unfold maxLen;omega
     case c2=>have:=HG.out;omega
     case c3=>exact hx.size
     intro v' w3 hown3 hgr _
     go_wp2_with fail
     go_roundg (ls.length - (k+1))
     case measure=>omega
     case rel=>exact⟨k+1,by omega,rfl,by go_num,by rw [HT.out];exact hown3,Below.grown hx hgr hx.size (fun j hj=>(HO.out.lt j hj).1)⟩
    ·have:k=ls.length:=by omega
     subst this
     rw [List.take_length]at hown
     have HO:=Lib.hid hown
     clear hown ha3
     go_wp2_with fail
     go_ret
     exact⟨_,rfl,HO.out,hx⟩
end Go.Proofs.YtkddkbpoefidpaaGreatDoor
namespace Go.Proofs.YtkddkbpoefidpaaGreatDoor
open Go.RowKit Go.Shelf Go.Sort
def sideN (c:Bool):Nat:=if c then 1 else 0
theorem sideN_ne (c:Bool):sideN (!c)≠sideN c:=by cases c <;> decide
theorem info_pair:(Tryz.prog.info? 197).map (fun i=>(i.zero,i.size,i.bytes))=some (some (.agg #[.int .i64 0,.int .i64 0,.int .i64 0,.int .i64 0]),Rep.pair.size,32):=by kernel_rfl
def upd {α:Type} (f:Bool→α) (c:Bool) (x:α):Bool→α:=fun d=>if d=c then x else f d
theorem upd_same {α:Type} (f:Bool→α) (c:Bool) (x:α):upd f c x c=x:=if_pos rfl
theorem upd_not {α:Type} (f:Bool→α) (c:Bool) (x:α):upd f c x (!c)=f (!c):=if_neg (by cases c <;> decide)
theorem QAt.grow {w w':World} {qb s B:Nat} {v:Value} {xs:List Ev} (h:QAt w qb s B v xs) (hx:Ext w w'):QAt w' qb s B v xs :=
 h.chg (hx.chg fun _=>False) (fun h=>h) (fun _ _ h=>h)
structure Sweep (w wr:World) (sb qb B:Nat) (va vb v3:Value) (es:List Ev) (q:Bool→List Ev) (u:Bool→Value) (vo:Value) (out:List Pair):Prop where
 ext:Ext w wr
 ev:OwnOf Rep.ev wr (fun _=>True) w.heap.size 246 v3 es
 evB : ∀k,v3.ownBlock=some k→k<B∧k≠qb
 s0:wr.cell? ⟨sb,0,none⟩=some va
 s1:wr.cell? ⟨sb,1,none⟩=some vb
 sbB:sb<B∧sb≠qb
 qbB:qb<B∧w.heap.size≤qb
 qs : ∀c,QAt wr qb (sideN c) B (u c) (q c)
 hp : ∀c,HeapL (q c)
 dj : ∀c k,(u c).ownBlock=some k→(u (!c)).ownBlock≠some k
 out:OwnOf Rep.pair wr (fun _=>True) B 197 vo out
 dq : ∀c k,(u c).ownBlock=some k→vo.ownBlock≠some k
theorem Sweep.base {w wr:World} {sb qb B:Nat} {va vb v3:Value} {es:List Ev} {q:Bool→List Ev} {u:Bool→Value} {vo:Value} {out:List Pair} (h:Sweep w wr sb qb B va vb v3 es q u vo out):B≤wr.heap.size:=(h.qs true).base
theorem Sweep.qsz {w wr:World} {sb qb B:Nat} {va vb v3:Value} {es:List Ev} {q:Bool→List Ev} {u:Bool→Value} {vo:Value} {out:List Pair} (h:Sweep w wr sb qb B va vb v3 es q u vo out):qb<wr.heap.size:=Nat.lt_of_lt_of_le h.qbB.1 h.base
theorem Sweep.grow {w wr w':World} {sb qb B:Nat} {va vb v3:Value} {es:List Ev} {q:Bool→List Ev} {u:Bool→Value} {vo:Value} {out:List Pair} (h:Sweep w wr sb qb B va vb v3 es q u vo out) (hx:Ext wr w'):Sweep w w' sb qb B va vb v3 es q u vo out :=
 ⟨h.ext.trans hx,h.ev.ext hx,h.evB,hx.at h.s0,hx.at h.s1,h.sbB,h.qbB,fun c=>(h.qs c).grow hx,h.hp,h.dj,h.out.ext hx,h.dq⟩
theorem Sweep.queue {w wr w':World} {sb qb B:Nat} {va vb v3:Value} {es:List Ev} {q:Bool→List Ev} {u:Bool→Value} {vo:Value} {out:List Pair} (h:Sweep w wr sb qb B va vb v3 es q u vo out) {c:Bool} {v':Value} {xs':List Ev}
  (hq:QAt w' qb (sideN c) B v' xs') (hh:HeapL xs') (hat:v'.ownBlock=(u c).ownBlock∨ ∃k,v'.ownBlock=some k∧wr.heap.size≤k) (hx:Chg (fun k=>k=qb∨(u c).ownBlock=some k) wr w') (ho:Oth wr w' qb (sideN c)) :
  Sweep w w' sb qb B va vb v3 es (upd q c xs') (upd u c v') vo out:=by
 have hB:=h.base
 have hul : ∀c k,(u c).ownBlock=some k→B≤k∧k<wr.heap.size:=fun c k hk=>(h.qs c).own.lt k hk
 refine⟨hx.below h.ext fun b hb=> ?_,h.ev.chg flat_ev hx fun k hk hc=> ?_,h.evB,hx.at h.s0 ?_,hx.at h.s1 ?_,h.sbB,h.qbB,fun d=> ?_,fun d=> ?_,fun d k hk=> ?_,h.out.chg flat_pair hx fun k hk hc=> ?_,fun d k hk=> ?_⟩
 ·rcases hb with rfl | hb
  ·exact h.qbB.2
  ·have:=hul c b hb
   have:=h.qbB
   omega
 ·have h1:=h.evB k hk
  rcases hc with hc | hc
  ·exact h1.2 hc
  ·have:=hul c k hc
   omega
 ·rintro(hc | hc)
  ·exact h.sbB.2 hc
  ·have:=hul c _ hc
   have:=h.sbB.1
   simp at *
   omega
 ·rintro(hc | hc)
  ·exact h.sbB.2 hc
  ·have:=hul c _ hc
   have:=h.sbB.1
   simp at *
   omega
 ·by_cases hd:d=c
  ·subst hd
   rw [upd_same,upd_same]
   exact hq
  ·have hdn:d = !c:=by cases d <;> cases c <;> simp_all
   subst hdn
   rw [upd_not,upd_not]
   have h1:=h.qs (!c)
   have h2:=ho (sideN (!c)) (sideN_ne c)
   exact⟨h2.1.trans h1.cell,h2.2.trans h1.free,h1.own.chg flat_act hx (fun k hk hc=>by
    rcases hc with hc | hc
    ·exact h1.ne (by rw [hk,hc])
    ·exact h.dj c k hc hk),h1.ne,Nat.le_trans h1.base hx.size⟩
 ·by_cases hd:d=c
  ·subst hd
   rw [upd_same]
   exact hh
  ·have hdn:d = !c:=by cases d <;> cases c <;> simp_all
   subst hdn
   rw [upd_not]
   exact h.hp _
 ·by_cases hd:d=c
  ·subst hd
   rw [upd_same]at hk
   rw [upd_not]
   rcases hat with hat | ⟨j,hj,hjl⟩
   ·exact h.dj d k (by rw [←hat];exact hk)
   ·rw [hj]at hk
    injection hk with hk
    intro e
    have:=hul (!d) k e
    omega
  ·have hdn:d = !c:=by cases d <;> cases c <;> simp_all
   subst hdn
   rw [upd_not]at hk
   rw [Bool.not_not,upd_same]
   rcases hat with hat | ⟨j,hj,hjl⟩
   ·rw [hat]
    exact fun e=>h.dj c k e hk
   ·rw [hj]
    intro e
    injection e with e
    have:=hul (!c) k hk
    omega
 ·rcases hc with hc | hc
  ·have:=h.out.lt k hk
   have:=h.qbB.1
   omega
  ·exact h.dq c k hc hk
 ·by_cases hd:d=c
  ·subst hd
   rw [upd_same]at hk
   rcases hat with hat | ⟨j,hj,hjl⟩
   ·exact h.dq d k (by rw [←hat];exact hk)
   ·rw [hj]at hk
    injection hk with hk
    intro e
    have:=h.out.lt k e
    omega
  ·have hdn:d = !c:=by cases d <;> cases c <;> simp_all
   subst hdn
   rw [upd_not]at hk
   exact h.dq _ k hk
theorem Sweep.push {w wr w':World} {sb qb B:Nat} {va vb v3:Value} {es:List Ev} {q:Bool→List Ev} {u:Bool→Value} {vo vo':Value} {out out':List Pair} (h:Sweep w wr sb qb B va vb v3 es q u vo out)
  (ho:OwnOf Rep.pair w' (fun _=>True) B 197 vo' out') (hg:wr.grownBy w' vo.ownBlock) (hat:vo'.ownBlock=vo.ownBlock∨vo'.ownBlock=some wr.heap.size):Sweep w w' sb qb B va vb v3 es q u vo' out':=by
 have hB:=h.base
 have hx:=chg_grown hg
 have hol : ∀k,vo.ownBlock=some k→B≤k∧k<wr.heap.size:=fun k hk=>h.out.lt k hk
 refine⟨hx.below h.ext fun b hb=> ?_,h.ev.chg flat_ev hx fun k hk hc=> ?_,h.evB,hx.at h.s0 ?_,hx.at h.s1 ?_,h.sbB,h.qbB,fun d=>(h.qs d).chg hx ?_ fun k hk hc=>h.dq d k hk hc,h.hp,h.dj,ho,fun d k hk=> ?_⟩
 ·have:=hol b hb
  have:=h.qbB
  omega
 ·have h1:=h.evB k hk
  have:=hol k hc
  omega
 ·intro hc
  have:=hol _ hc
  have:=h.sbB.1
  simp at *
  omega
 ·intro hc
  have:=hol _ hc
  have:=h.sbB.1
  simp at *
  omega
 ·intro hc
  have:=hol _ hc
  have:=h.qbB.1
  omega
 ·rcases hat with hat | hat
  ·rw [hat];exact h.dq d k hk
  ·rw [hat]
   intro e
   injection e with e
   have:=((h.qs d).own.lt k hk).2
   omega
structure Kept (w:World) (b:Nat) (x y z:Int):Prop where
 c0:w.cell? ⟨b,0,none⟩=some (.int .i64 x)
 c1:w.cell? ⟨b,1,none⟩=some (.int .i64 y)
 c2:w.cell? ⟨b,2,none⟩=some (.int .i64 z)
theorem Kept.chg {w w':World} {b:Nat} {x y z:Int} (h:Kept w b x y z) {C:Nat→Prop} (hx:Chg C w w') (hn : ¬C b):Kept w' b x y z:=⟨hx.at h.c0 hn,hx.at h.c1 hn,hx.at h.c2 hn⟩
theorem Kept.grow {w w':World} {b:Nat} {x y z:Int} (h:Kept w b x y z) (hx:Ext w w'):Kept w' b x y z:=⟨hx.at h.c0,hx.at h.c1,hx.at h.c2⟩
theorem Kept.new (w:World) (x y z:Int) (T:TypeId):Kept (w.alloc (.cells #[.int .i64 x,.int .i64 y,.int .i64 z] T)) w.heap.size x y z:=⟨by simp,by simp,by simp⟩
theorem OwnOf.shapeLen {α:Type} {R:Rep α} {w:World} {S:Nat→Prop} {base:Nat} {e:TypeId} {v:Value} {xs:List α} (h:OwnOf R w S base e v xs) : ∃p c,v = .slice p xs.length c∧(0<xs.length→ ∃g,p=some ⟨g,0,none⟩∧base≤g):=by
 rcases h.form with ⟨rfl,rfl⟩ | ⟨g,cap,rfl,hb,_⟩
 ·exact⟨_,_,rfl,fun h=>by simp at h⟩
 ·exact⟨_,_,rfl,fun _=>⟨g,rfl,hb⟩⟩
theorem ev_at {h:View} {g n cap:Nat} {xs:List Ev} (k:SliceOf Rep.ev h (.slice (some ⟨g,0,none⟩) n cap) xs) (i:Nat) (hi:i<xs.length) :
  h ⟨g,i*3,none⟩=some (.int .i64 xs[i].from_)∧h ⟨g,i*3+1,none⟩=some (.int .i64 (sideI xs[i].side))∧h ⟨g,i*3+2,none⟩=some (.int .i64 xs[i].idx):=by
 obtain⟨c,⟨rfl,_⟩,h2⟩:=k.at i hi
 have a0:=h2 0 _ rfl
 have a1:=h2 1 _ rfl
 have a2:=h2 2 _ rfl
 rw [show Rep.ev.size=3 from rfl,Nat.zero_add]at a0 a1 a2
 exact⟨a0,a1,a2⟩
theorem act_at {h:View} {g n cap:Nat} {xs:List Ev} (k:SliceOf Rep.act h (.slice (some ⟨g,0,none⟩) n cap) xs) (i:Nat) (hi:i<xs.length) :
  h ⟨g,i*2,none⟩=some (.int .i64 xs[i].idx)∧h ⟨g,i*2+1,none⟩=some (.int .i64 xs[i].to_):=by
 obtain⟨c,⟨rfl,_⟩,h2⟩:=k.at i hi
 have a0:=h2 0 _ rfl
 have a1:=h2 1 _ rfl
 rw [show Rep.act.size=2 from rfl,Nat.zero_add]at a0 a1
 exact⟨a0,a1⟩
theorem ends_at {h:View} {b o n cap:Nat} {l:List Tup} (k:SliceOf Rep.tup h (.slice (some ⟨b,o,none⟩) n cap) l) (i:Nat) (hi:i<l.length) :
  h ⟨b,o+i*4+1,none⟩=some (.int .i64 l[i].from_)∧h ⟨b,o+i*4+2,none⟩=some (.int .i64 l[i].to_):=by
 obtain⟨_,_,_,h1,h2,_⟩:=tup_at k i hi
 exact⟨h1,h2⟩
theorem Sweep.first {w w4:World} {va vb v3:Value} {es:List Ev} (T1 T2:TypeId) (hx:Ext w w4) (ho:OwnOf Rep.ev w4 (fun _=>True) w.heap.size 246 v3 es) :
  Sweep w ((w4.alloc (.cells #[va,vb] T1)).alloc (.cells #[.slice none 0 0,.slice none 0 0] T2)) w4.heap.size (w4.heap.size+1) (w4.heap.size+2) va vb v3 es (fun _=> []) (fun _=> .slice none 0 0) (.slice none 0 0) []:=by
 have hx2:Ext w4 ((w4.alloc (.cells #[va,vb] T1)).alloc (.cells #[.slice none 0 0,.slice none 0 0] T2)):=((Ext.refl w4).alloc _).alloc _
 refine⟨hx.trans hx2,ho.ext hx2,fun k hk=> ?_,by simp,by simp,⟨by omega,by omega⟩,⟨by omega,Nat.le_trans hx.size (by omega)⟩,fun c=> ?_,fun c=> ?_,fun c k hk=> ?_,OwnOf.nil _ _ _ _ _,fun c k hk=> ?_⟩
 ·have:=(ho.lt k hk).2
  omega
 ·cases c
  ·exact⟨by simp [sideN],by simp [sideN],OwnOf.nil _ _ _ _ _,by simp [Value.ownBlock],by simp⟩
  ·exact⟨by simp [sideN],by simp [sideN],OwnOf.nil _ _ _ _ _,by simp [Value.ownBlock],by simp⟩
 ·intro k h0 hk
  simp at hk
 ·simp [Value.ownBlock]at hk
 ·simp [Value.ownBlock]at hk
def Known (a b:List Tup) (e:Ev):Prop:=okEv e=true∧okS e∧okE e∧ ∃h:e.idx<(if e.side then b else a).length,(if e.side then b else a)[e.idx].from_=e.from_∧(if e.side then b else a)[e.idx].to_=e.to_
theorem known_of {a b:List Tup} {c:Bool} {l:List Tup} (hl:l=if c then b else a) (hlen:l.length≤1000) (hr : ∀t∈l,(-9223372036854775808≤t.from_∧t.from_≤9223372036854775807)∧(-9223372036854775808≤t.to_∧t.to_≤9223372036854775807)) {e:Ev} (he:e∈starts c l):Known a b e:=by
 obtain⟨h1,h2,t,h3,h4,h5⟩:=starts_mem he
 obtain⟨h6,h7⟩:=List.getElem?_eq_some_iff.1 h3
 obtain⟨h8,h9⟩:=hr t (by rw [←h7];exact List.getElem_mem _)
 refine⟨h2,⟨by omega,by rw [h4];exact h8⟩,⟨by omega,by rw [h5];exact h9⟩,?_⟩
 rw [h1,←hl]
 exact⟨h6,by rw [h7,h4],by rw [h7,h5]⟩
theorem tup_rng {h:View} {v:Value} {l:List Tup} (k:SliceOf Rep.tup h v l) : ∀t∈l,(-9223372036854775808≤t.from_∧t.from_≤9223372036854775807)∧(-9223372036854775808≤t.to_∧t.to_≤9223372036854775807):=by
 obtain⟨css,h1,h2⟩:=k
 clear h2
 induction l generalizing css with
 |nil=>simp
 |cons t l ih =>
  cases css with
  |nil=>exact h1.elim
  |cons c css =>
   intro x hx
   rcases List.mem_cons.1 hx with rfl | hx
   ·obtain⟨_,_,_,_,_,r⟩:=h1.1
    exact r
   ·exact ih css h1.2 x hx
theorem comparePairs_enter : ∀args w,(callFunc 181 args).run Tryz.prog w = .ok (.enter 181 args) w:=fun args w=>by kernel_rfl
theorem sortPairs_any (w:World) (S:Nat→Prop) (base:Nat) (e:TypeId) (v:Value) (xs:List Pair) (hown:OwnOf Rep.pair w S base e v xs) (hlen:xs.length<4611686018427387904) :
  Calls Tryz.prog 180 #[v,.func (.func 181) #[] #[]] w fun en w'=> ∃ys,en = .returned (.tuple #[])∧ys.Perm xs∧(ys.Pairwise fun a b=> ¬cmpPair b a<0)∧OwnOf Rep.pair w' S base e v ys∧w.grownBy w' v.ownBlock :=
 sortFunc_gen Rep.pair cmpPair swo_pair 181 180 4611686018427387904
  (fun β _ enc hel h1 cf hO blk off cap d w hcmp hH hblk hsz=>AnyQ.slices_SortFunc Tryz.sortPairs Rep.pair.size (fun w=>by kernel_rfl) (fun w=>by kernel_rfl) enc hel h1 cf hO 181 #[] blk off cap d w comparePairs_enter hcmp hH hblk hsz)
  (fun p cap w=>AnyF.slices_SortFunc_none Tryz.sortPairs p cap (.func (.func 181) #[] #[]) w)
  (fun W x y cx cy hx hy=>by obtain⟨rfl,_⟩:=hx;obtain⟨rfl,_⟩:=hy;exact comparePairs_any x y W) w S base e v xs hown hlen
end Go.Proofs.YtkddkbpoefidpaaGreatDoor
namespace Go.Proofs.YtkddkbpoefidpaaGreatDoor
open Go.RowKit Go.Deep Go.ChangeShapes Go.WideShapes Go.ChangeAt
def Opens {α:Type} (P:Program) (t:TypeId) (R:Rep α):Prop :=
 ∀(H:Type) (enc:TypeId×Value→H) (w:World) (base:Nat) (spare:Nat→Bool) (held:Bool) (fuel:Nat) (cs:List Value) (x:DataW H×List MemPlace),
  DataW.trod enc P w base spare held fuel t cs=some x→ ∃y,R.holds w.cell? cs y
theorem wf_i64 {n:Int} (h:(Lit.int .i64 n).wf=true) : -9223372036854775808≤n∧n≤9223372036854775807:=by
 simpa [Lit.wf,IntKind.min,IntKind.max,IntKind.signed,IntKind.bits] using h
theorem opens_int {P:Program} {t:TypeId} (ht:P.underlying t=some (.int .i64)):Opens P t Rep.int:=by
 intro H enc w base spare held fuel cs x h
 obtain⟨a,e0,_,wa⟩:=DataW.trod_int ht h
 exact⟨a,e0,wf_i64 wa⟩
theorem repAll_of {α:Type} (R:Rep α) (h:View) (p:Nat→List Value→Prop) (n:Nat) (hp : ∀i,i<n→ ∃cs y,R.holds h cs y∧p i cs) :
  ∃css ys,css.length=n∧RepAll R h css ys∧ ∀i c,css[i]?=some c→p i c:=by
 induction n with
 |zero=>exact⟨[],[],rfl,trivial,fun i c hc=>by simp at hc⟩
 |succ n ih =>
  obtain⟨css,ys,h1,h2,h3⟩:=ih fun i hi=>hp i (by omega)
  obtain⟨c,y,h4,h5⟩:=hp n (by omega)
  refine⟨css ++ [c],ys ++ [y],by simp [h1],h2.append (RepAll.one h4),fun i d hd=> ?_⟩
  by_cases hi:i<css.length
  ·rw [List.getElem?_append_left hi]at hd
   exact h3 i d hd
  ·rw [List.getElem?_append_right (by omega)]at hd
   have:i=n:=by
    have:=(List.getElem?_eq_some_iff.1 hd).1
    simp at this
    omega
   subst this
   rw [h1,Nat.sub_self]at hd
   simp at hd
   subst hd
   exact h5
theorem flat_at {css:List (List Value)} {k:Nat} (hk : ∀c∈css,c.length=k) (j:Nat) (u:Value) (h:css.flatten[j]?=some u) : ∃i r c,css[i]?=some c∧c[r]?=some u∧j=i*k+r:=by
 induction css generalizing j with
 |nil=>simp at h
 |cons c css ih =>
  by_cases hj:j<c.length
  ·rw [List.flatten_cons,List.getElem?_append_left hj]at h
   exact⟨0,j,c,rfl,h,by simp⟩
  ·rw [List.flatten_cons,List.getElem?_append_right (by omega)]at h
   obtain⟨i,r,d,h1,h2,h3⟩:=ih (fun d hd=>hk d (by simp [hd])) _ h
   have:=hk c (by simp)
   exact⟨i+1,r,d,by simpa using h1,h2,by rw [Nat.succ_mul];omega⟩
theorem repAll_len {α:Type} {R:Rep α} {h:View} {css:List (List Value)} {ys:List α} (k:RepAll R h css ys) : ∀c∈css,c.length=R.size:=by
 induction css generalizing ys with
 |nil=>simp
 |cons c css ih =>
  cases ys with
  |nil=>exact k.elim
  |cons y ys =>
   intro d hd
   rcases List.mem_cons.1 hd with rfl | hd
   ·exact R.len k.1
   ·exact ih k.2 d hd
theorem opens_slice {α:Type} {P:Program} {t e:TypeId} {R:Rep α} (ht:P.underlying t=some (.slice e)) (hc:P.cellsOf e=R.size) (hR:Opens P e R):Opens P t R.slice:=by
 intro H enc w base spare held fuel cs x h
 rcases open_slice ht h with ⟨rfl,_⟩ | ⟨a,len,cap,m,n,D,Pl,rfl,hb,hl,hm,hmm,_,hx⟩
 ·exact⟨[],_,rfl,SliceOf.nil R _⟩
 ·have hlm:len≤m:=by rw [hmm];split <;> omega
  obtain⟨css,ys,h1,h2,h3⟩:=repAll_of R w.cell? (fun i cs'=>w.cells? base (a.add (i*P.cellsOf e)) (P.cellsOf e)=some cs') len fun i hi=>by
   obtain⟨cs',g1,g2⟩:=hx i (by omega)
   obtain⟨y,hy⟩:=hR H enc w base spare held n cs' _ g2
   exact⟨cs',y,hy,g1⟩
  have hlen:ys.length=len:=by rw [←h2.length,h1]
  refine⟨ys,_,rfl,css,h2,?_⟩
  rw [hlen]
  refine .inr ⟨a,cap,rfl,hl,hm,?_⟩
  have hcell : ∀j u,css.flatten[j]?=some u→w.cell? (a.add j)=some u:=by
   intro j u hj
   obtain⟨i,r,c,g1,g2,g3⟩:=flat_at (repAll_len h2) j u hj
   obtain⟨_,g5,g6⟩:=World.cells?_some (h3 i c g1)
   have hr:r<P.cellsOf e:=by rw [←g5];exact(List.getElem?_eq_some_iff.1 g2).1
   have:=g6 r hr
   rw [g2,Addr.add_add,hc,←g3]at this
   exact this
  by_cases hne:css.flatten = []
  ·exact .inl hne
  ·right
   obtain⟨u,us,hu⟩:=List.exists_cons_of_ne_nil hne
   have h0:=hcell 0 u (by rw [hu];rfl)
   obtain⟨b,o,sp⟩:=a
   have hsp:sp=none:=by
    cases sp with
    |none=>rfl
    |some s=>simp [World.cell?,Addr.add]at h0;split at h0 <;> simp at h0
   subst hsp
   exact⟨b,o,rfl,fun j u hj=>by have:=hcell j u hj;rwa [add_lit]at this⟩
end Go.Proofs.YtkddkbpoefidpaaGreatDoor
namespace Go.Proofs.YtkddkbpoefidpaaGreatDoor
open Go.RowKit Go.Maps
def stepEnc (s:StepI):List Value:= [.int .i64 s.from_,.int .i64 s.to_,.int .i64 1,.int .i64 s.n,.string ByteArray.empty]
def Rep.step:Rep StepI where
 size:=5
 holds _ cs x:=cs=stepEnc x∧okI x.from_∧okI x.to_∧okI x.n
 len:=by rintro w cs x ⟨rfl,_⟩;rfl
 ext:=by rintro w w' cs x h _;exact h
 one:=by rintro w cs x ⟨rfl,_⟩;simp [stepEnc,Value.oneCell']
theorem flatten_set {u:Value} : ∀(css:List (List Value)) (k i r:Nat),(∀c∈css,c.length=k)→(hi:i<css.length)→r<k→css.flatten.set (i*k+r) u=(css.set i (css[i].set r u)).flatten:=by
 intro css
 induction css with
 |nil=>intro k i r _ hi;simp at hi
 |cons c css ih =>
  intro k i r hl hi hr
  have hc:=hl c (by simp)
  cases i with
  |zero=>simp only [Nat.zero_mul,Nat.zero_add,List.flatten_cons,List.set_cons_zero,List.getElem_cons_zero];rw [List.set_append_left _ _ (by omega)]
  |succ i =>
   simp only [List.flatten_cons,List.set_cons_succ,List.getElem_cons_succ]
   rw [List.set_append_right _ _ (by rw [Nat.succ_mul];omega),hc,show (i+1)*k+r - k=i*k+r by rw [Nat.succ_mul];omega,ih k i r (fun d hd=>hl d (by simp [hd])) (by simpa using hi) hr]
theorem RepAll.set {α:Type} {R:Rep α} {h:View} {css:List (List Value)} {xs:List α} (k:RepAll R h css xs) {c:List Value} {y:α} (hy:R.holds h c y) : ∀i,RepAll R h (css.set i c) (xs.set i y):=by
 induction css generalizing xs with
 |nil =>
  cases xs with
  |nil=>intro i;simpa using k
  |cons x xs=>exact k.elim
 |cons d css ih =>
  cases xs with
  |nil=>exact k.elim
  |cons x xs =>
   intro i
   cases i with
   |zero=>exact⟨hy,k.2⟩
   |succ i=>exact⟨k.1,ih k.2 i⟩
theorem OwnOf.store {α:Type} {R:Rep α} (hR:R.flat) {w:World} {S:Nat→Prop} {base:Nat} {e:TypeId} {g cap:Nat} {xs:List α} (h:OwnOf R w S base e (.slice (some ⟨g,0,none⟩) xs.length cap) xs) (i r:Nat) (hi:i<xs.length) (hr:r<R.size) (u:Value) (y:α)
  (hy : ∀cs,R.holds w.cell? cs xs[i]→R.holds w.cell? (cs.set r u) y) :
  OwnOf R (w.setCell ⟨g,i*R.size+r,none⟩ u) S base e (.slice (some ⟨g,0,none⟩) xs.length cap) (xs.set i y)∧w.grownBy (w.setCell ⟨g,i*R.size+r,none⟩ u) (some g):=by
 obtain⟨css,h1,h2⟩:=h
 have hcl:=h1.length
 obtain⟨h3,h4⟩:=h2.stored (i*R.size+r) u
 refine⟨⟨css.set i ((css[i]'(by omega)).set r u),?_,?_⟩,h4⟩
 ·have h5:RepAll R w.cell? css xs:=h1.flatView hR
  obtain⟨c,g1,g2,_⟩:=h5.at i hi
  rw [List.getElem?_eq_getElem (by omega)]at g2
  injection g2 with g2
  rw [g2]
  exact RepAll.flatView hR (RepAll.set h5 (hy c g1) i)
 ·rw [List.length_set,←flatten_set css R.size i r (repAll_len' h1) (by omega) hr]
  exact h3
structure MapIs (D:DataW Unit) (l:List Tup):Prop where
 map:IsMap D
 val : ∀x,D.atKey (.int .i64 x) (.lit (.int .i64 0)) = .lit (.int .i64 (chg l x))
 has : ∀x,Maps.has D (.int .i64 x)=true↔x∈bnd l
def ColI (D:DataW Unit) (left:Lit→Bool) (ss:List Int):Prop:=ss.Nodup∧ ∀x,x∈ss↔(Maps.has D (.int .i64 x)=true∧left (.int .i64 x)=false)
theorem pts_len (l:List Tup):(pts l).length≤2*l.length:=by
 obtain⟨_,_,p3⟩:=pts_law l
 exact Nat.le_trans p3 (bnd_len l)
theorem cnt_len (l:List Tup) (x:Int):cntAt l x≤l.length:=List.length_filter_le _ _
end Go.Proofs.YtkddkbpoefidpaaGreatDoor
namespace Go.Proofs.YtkddkbpoefidpaaGreatDoor
open Go.RowKit Go.Maps
def fDep (l:List Tup) (i:Nat):Int:=cntAt l (pts l)[i]!
theorem depthOf_eq (l:List Tup):depthOf l=stepsOf (pts l) (fDep l) ((pts l).length - 1):=rfl
end Go.Proofs.YtkddkbpoefidpaaGreatDoor
namespace Go.Proofs.YtkddkbpoefidpaaGreatDoor
open Go.RowKit Go.Shelf Go.Sort
def cmpPer (x y:Per):Int:=cmpI x.from_ y.from_
theorem swo_per:SWO (ltOf cmpPer):=swo_pull ord_int.swo fun x:Per=>x.from_
set_option maxHeartbeats 1000000 in
theorem cmpPer_any (x y:Per) (w:World):Calls Tryz.prog 186 #[.agg (perEnc x).toArray,.agg (perEnc y).toArray] w fun e w'=>e = .returned (.int .i64 (cmpPer x y))∧Gro w w':=by
 unfold perEnc cmpPer
 obtain⟨f1,t1⟩:=x
 obtain⟨f2,t2⟩:=y
 dsimp only
 go_enter Tryz.func186,Tryz.ntmps186
 go_wp2_with fail
 refine(compare_int _ _ _).mono ?_
 rintro e w1 ⟨rfl,rfl⟩
 go_wp2_with fail
 go_ret
 exact⟨rfl,((Gro.refl w).alloc _).alloc _⟩
theorem cmpPer_enter : ∀args w,(callFunc 186 args).run Tryz.prog w = .ok (.enter 186 args) w:=fun args w=>by kernel_rfl
theorem sortPers_any (w:World) (S:Nat→Prop) (base:Nat) (e:TypeId) (v:Value) (xs:List Per) (hown:OwnOf Rep.per w S base e v xs) (hlen:xs.length<4611686018427387904) :
  Calls Tryz.prog 185 #[v,.func (.func 186) #[] #[]] w fun en w'=> ∃ys,en = .returned (.tuple #[])∧ys.Perm xs∧(ys.Pairwise fun a b=> ¬cmpPer b a<0)∧OwnOf Rep.per w' S base e v ys∧w.grownBy w' v.ownBlock :=
 sortFunc_gen Rep.per cmpPer swo_per 186 185 4611686018427387904
  (fun β _ enc hel h1 cf hO blk off cap d w hcmp hH hblk hsz=>AnyQ.slices_SortFunc Tryz.sortPers Rep.per.size (fun w=>by kernel_rfl) (fun w=>by kernel_rfl) enc hel h1 cf hO 186 #[] blk off cap d w cmpPer_enter hcmp hH hblk hsz)
  (fun p cap w=>AnyF.slices_SortFunc_none Tryz.sortPers p cap (.func (.func 186) #[] #[]) w)
  (fun W x y cx cy hx hy=>by obtain⟨rfl,_⟩:=hx;obtain⟨rfl,_⟩:=hy;exact cmpPer_any x y W) w S base e v xs hown hlen
def okPer (p:Per):Bool:=validB p.from_ p.to_
theorem per_take (l:List Per) (k:Nat) (h:k<l.length):(l.take (k+1)).filter okPer=(l.take k).filter okPer++if okPer l[k]=true then [l[k]]else []:=by
 rw [List.take_succ_eq_append_getElem h,List.filter_append]
 congr 1
 rw [List.filter_cons,List.filter_nil]
set_option maxRecDepth 100000 in
set_option maxHeartbeats 8000000 in
theorem norm_any (v:Value) (l:List Per) (w:World) (hv:SliceOf Rep.per w.cell? v l) (hl:l.length≤20000) :
  Calls Tryz.prog 130 #[v] w fun e w'=> ∃v',e = .returned v'∧SliceOf Rep.per (on w' (fun k=>w.heap.size≤k)) v' (refNorm l)∧Ext w w':=by
 obtain⟨i0,hi,hz0,hz1,hz2⟩:=info_parts info_per
 have mixed:=mixedOrd
 obtain⟨p,cap,rfl,hc1,hc2,hp⟩:=hv.form
 obtain⟨N,hN⟩ : ∃N,N=l.length:=⟨_,rfl⟩
 have HV:=Lib.hid hv
 rw [←hN]
 have HN:=Lib.hid hN
 have HP:=Lib.hid hp
 have hNl:N≤20000:=by omega
 clear hv hN hp hc1 hc2
 go_enter Tryz.func130,Tryz.ntmps130
 go_wp2_with fail
 go_loopg [3,12] N (fun gk vo vi wr=> ∃(k:Nat) (u:Value),k≤N∧gk=N - k∧vi = .int .i64 k∧u=vo∧Hid (OwnOf Rep.per wr (fun _=>True) w.heap.size 94 u ((l.take k).filter okPer))∧Ext w wr)
 case atStart=>exact⟨0,_,by omega,rfl,rfl,rfl,OwnOf.nil _ _ _ _ _,Ext.refl w⟩
 case round =>
  obtain⟨k,u,hk,rfl,rfl,rfl,OW,hx⟩:=hrel
  by_cases hlt:k<N
  ·have hkl:k<l.length:=by have:=HN.out;omega
   obtain⟨b,o,rfl⟩:=HP.out (by decide) (by omega)
   have hv:=HV.out
   rw [←HN.out]at hv
   obtain⟨c0,c1,r1,r2⟩:=per_at hv k hkl
   replace c0:=hx.at c0
   replace c1:=hx.at c1
   have hst:=per_take l k hkl
   have hlen:((l.take k).filter okPer).length≤20000:=by have:=List.length_filter_le okPer (l.take k);simp at this;omega
   obtain⟨y,hy⟩ : ∃y,y=l[k]:=⟨_,rfl⟩
   rw [←hy]at c0 c1 r1 r2 hst
   have HST:=Lib.hid hst
   have HL:=Lib.hid hlen
   have HR:=Lib.hid (And.intro r1 r2)
   have hd:decide ((k:Int)<(N:Int))=true:=by simp;omega
   have e0:=cell_lt c0
   obtain⟨f,t⟩:=y
   dsimp only at c0 c1
   clear hst hlen hv r1 r2 hy
   go_wp2_with fail
   refine(valid_any f t _).mono ?_
   rintro e w1 ⟨rfl,hx1⟩
   have d0:w1.cell? ⟨wr.heap.size,0,none⟩=some (.int .i64 f):=hx1.at (by go_simp)
   have d1:w1.cell? ⟨wr.heap.size,1,none⟩=some (.int .i64 t):=hx1.at (by go_simp)
   have hx2:Ext wr w1:=((Ext.refl wr).alloc _).trans hx1
   clear hx1 c0 c1 e0
   cases hvb:validB f t with
   |true =>
    have HVB:=Lib.hid hvb
    clear hvb
    have B1:((l.take k).filter okPer).length + [(⟨f,t⟩:Per)].length≤maxLen:=by simp only [List.length_singleton,maxLen];have:=HL.out;omega
    have B2:(((l.take k).filter okPer).length + [(⟨f,t⟩:Per)].length)*16≤140737488355328:=by simp only [List.length_singleton];have:=HL.out;omega
    go_wp2_with (at_builtin;refine wpList_append_all Rep.per (fun _=>True) rfl _ _ 129 rfl w.heap.size 94 i0 _ 16 Tryz.underlying129 hi hz0 hz1 hz2 rfl (by decide) u ((l.take k).filter okPer) rfl (by exact OW.out.ext (hx2.alloc _)) _ [⟨f,t⟩] rfl (by exact lone_flat (T:=94) (cs:=perEnc ⟨f,t⟩) flat_per ⟨rfl,HR.out⟩ (OW.out.ext hx2)) B1 B2 (by exact Nat.le_trans hx.size (hx2.alloc _).size) ?_)
    intro v' w3 own gr _
    have hxx:Ext w w3:=(hx.trans (hx2.alloc _)).grownNew gr OW.out.base
    have OW2:=Lib.hid own
    clear own gr
    go_wp2_with fail
    go_roundg (N - (k+1))
    case measure=>omega
    case rel=>exact⟨k+1,v',by omega,rfl,by go_num,rfl,by show OwnOf _ _ _ _ _ _ _;rw [HST.out,if_pos (show okPer ⟨f,t⟩=true from HVB.out)];exact OW2.out,hxx⟩
   |false =>
    have HVB:=Lib.hid hvb
    clear hvb
    go_wp2_with fail
    go_roundg (N - (k+1))
    case measure=>omega
    case rel=>exact⟨k+1,u,by omega,rfl,by go_num,rfl,by show OwnOf _ _ _ _ _ _ _;rw [HST.out,if_neg (show ¬okPer ⟨f,t⟩=true from by show ¬validB f t=true;rw [HVB.out];decide),List.append_nil];exact OW.out.ext hx2,hx.trans hx2⟩
  ·have hkN:k=N:=by omega
   have hd : ¬(k:Int)<(N:Int):=by omega
   have OW2:=Lib.hid (show OwnOf Rep.per wr (fun _=>True) w.heap.size 94 u (l.filter okPer)from by have h:=OW.out;rwa [hkN,HN.out,List.take_length]at h)
   have HL:=Lib.hid (show (l.filter okPer).length≤20000 from by have:=List.length_filter_le okPer l;have:=HN.out;omega)
   clear hkN OW
   go_wp2_with fail
   refine(sortPers_any _ _ _ _ _ _ OW2.out (by have:=HL.out;omega)).mono ?_
   rintro e w4 ⟨s,rfl,hperm,hsort,own4,gr4⟩
   have X4:=Lib.hid (Ext.grownNew hx gr4 OW2.out.base)
   have hsorted:s.Pairwise fun a b=>a.from_≤b.from_:=hsort.imp fun {a b} h=>by unfold cmpPer cmpI at h;(repeat' split at h) <;> omega
   have HFIN:=Lib.hid (norm_agree hperm hsorted)
   have hsl:s.length≤20000:=by rw [hperm.length_eq];exact HL.out
   have HRG:=Lib.hid (show ∀p∈s,okI p.from_∧okI p.to_ from fun p hp=>by
    have h1:=(List.mem_filter.1 (hperm.mem_iff.1 hp)).2
    have h2:=validB_lt h1
    unfold okI
    omega)
   obtain⟨pu,cu,rfl,hpu⟩:=own4.shapeLen
   have HPU:=Lib.hid hpu
   obtain⟨M,hM⟩ : ∃M,M=s.length:=⟨_,rfl⟩
   obtain⟨B,hB⟩ : ∃B,B=w4.heap.size:=⟨_,rfl⟩
   have HB:=Lib.hid (show w.heap.size≤B∧B=w4.heap.size from ⟨by rw [hB];exact X4.out.size,hB⟩)
   have HUP:=Lib.hid (show ∀j,(Value.slice pu M cu).ownBlock=some j→j<B from fun j hj=>by have h1:=(own4.lt j (by cases pu <;> exact hj)).2;omega)
   have OP4:=Lib.hid own4
   rw [←hM]at OP4 hsl ⊢
   have HM:=Lib.hid hM
   clear hperm hsort hsorted own4 gr4 hpu hB hM OW2 hx
   go_wp2_with fail
   go_loopg [4,27] M (fun gk vo vi wr=> ∃(k:Nat) (uo:Value) (out:List Per),k≤M∧gk=M - k∧vi = .int .i64 k∧uo=vo∧Hid (out=mergePer (s.take k))∧out.length≤k∧Hid (OwnOf Rep.per wr (fun _=>True) B 94 uo out)∧Hid (OwnOf Rep.per wr (fun _=>True) w.heap.size 94 (.slice pu M cu) s)∧Hid (Ext w wr)∧Hid (B≤wr.heap.size))
   case atStart=>exact⟨0,_,[],by omega,rfl,rfl,rfl,rfl,by simp,OwnOf.nil _ _ _ _ _,OP4.out,X4.out,(by show B≤w4.heap.size;have:=HB.out;omega)⟩
   case round =>
    clear OP4 X4
    obtain⟨k,uo,out,hk,rfl,rfl,rfl,HOUT,hol,OO,OP,X5,HW5⟩:=hrel
    by_cases hlt2:k<M
    ·have hkl:k<s.length:=by have:=HM.out;omega
     have hd2:decide ((k:Int)<(M:Int))=true:=by simp;omega
     obtain⟨gp,rfl,_⟩:=HPU.out (by omega)
     obtain⟨c0,c1,r1,r2⟩:=per_at OP.out.slice k hkl
     rw [Nat.zero_add]at c0 c1
     obtain⟨y,hy⟩ : ∃y,y=s[k]:=⟨_,rfl⟩
     rw [←hy]at c0 c1 r1 r2
     have HSN:=Lib.hid (show mergePer (s.take (k+1))=addPer out y from by rw [List.take_succ_eq_append_getElem hkl,mergePer_snoc,←hy,←HOUT.out])
     obtain⟨f,t⟩:=y
     dsimp only at c0 c1 r1 r2
     have HR:=Lib.hid (And.intro r1 r2)
     obtain⟨po,co,rfl,hpo⟩:=OO.out.shapeLen
     have HPO:=Lib.hid hpo
     obtain⟨n,hn⟩ : ∃n,n=out.length:=⟨_,rfl⟩
     have HNN:=Lib.hid hn
     have hn100:n≤30000:=by omega
     have e0:=cell_lt c0
     rw [←hn]at OO ⊢
     clear hn hy r1 r2 hpo
     by_cases hn0:n=0
     ·have hnz:decide ((0:Int)<(n:Int))=false:=decide_eq_false (by omega)
      have hnz2:decide (0<n)=false:=decide_eq_false (by omega)
      have hnz3 : ¬ 0<n:=by omega
      have HN0:=Lib.hid hn0
      have hn1:n≤0:=by omega
      clear hn0
      go_wp2_with fail
      have X6:=Lib.hid ((Ext.refl wr).alloc (.cells #[.int .i64 f,.int .i64 t] 94))
      have m0:(wr.alloc (.cells #[.int .i64 f,.int .i64 t] 94)).cell? ⟨wr.heap.size,0,none⟩=some (.int .i64 f):=by simp
      have m1:(wr.alloc (.cells #[.int .i64 f,.int .i64 t] 94)).cell? ⟨wr.heap.size,1,none⟩=some (.int .i64 t):=by simp
      clear c0 c1 e0
      generalize wr.alloc (.cells #[.int .i64 f,.int .i64 t] 94)=W5 at m0 m1 X6 ⊢
      go_big_region_o
      have B1:out.length + [(⟨f,t⟩:Per)].length≤maxLen:=by simp only [List.length_singleton,maxLen];omega
      have B2:(out.length + [(⟨f,t⟩:Per)].length)*16≤140737488355328:=by simp only [List.length_singleton];omega
      go_wp2_with (at_builtin;refine wpList_append_all Rep.per (fun _=>True) rfl _ _ 129 rfl B 94 i0 _ 16 Tryz.underlying129 hi hz0 hz1 hz2 rfl (by decide) (.slice po n co) out rfl (by exact OO.out.ext (X6.out.alloc (.cells (perEnc ⟨f,t⟩).toArray 94)).drew) _ [⟨f,t⟩] rfl (by exact lone_flat (T:=94) (cs:=perEnc ⟨f,t⟩) flat_per ⟨rfl,HR.out⟩ (OO.out.ext X6.out)) B1 B2 (by exact Nat.le_trans HW5.out (X6.out.alloc (.cells (perEnc ⟨f,t⟩).toArray 94)).drew.size) ?_)
      intro v' w6 own gr _
      have hob:=fun j hj=>(OO.out.lt j hj).1
      have OP6:=Lib.hid ((OP.out.ext ((X6.out.alloc (.cells (perEnc ⟨f,t⟩).toArray 94)).drew)).chg flat_per (chg_grown gr) fun j hj e=>by have h1:=hob j e;have h2:=HUP.out j hj;omega)
      have X7:=Lib.hid (Chg.below (chg_grown gr) (X5.out.trans ((X6.out.alloc (.cells (perEnc ⟨f,t⟩).toArray 94)).drew)) fun b hb=>by have h1:=hob b hb;have h2:=HB.out;omega)
      have HW6:=Lib.hid (Nat.le_trans (Nat.le_trans HW5.out ((X6.out.alloc (.cells (perEnc ⟨f,t⟩).toArray 94)).drew).size) gr.size)
      have OW:=Lib.hid own
      clear own gr hob OP X5
      go_wp2_with fail
      go_roundg (M - (k+1))
      case measure=>omega
      case rel=>exact⟨k+1,v',out ++ [(⟨f,t⟩:Per)],by omega,rfl,by go_num,rfl,(by
       show _=_
       rw [HSN.out,addPer_new (fun hn=>absurd hn (by have h1:=HN0.out;have h2:=HNN.out;omega))]),by simp only [List.length_append,List.length_singleton];omega,OW.out,OP6.out,X7.out,HW6.out⟩
     ·have hnz:decide ((0:Int)<(n:Int))=true:=decide_eq_true (by omega)
      have hnz2:decide (0<n)=true:=decide_eq_true (by omega)
      have hnz3:0<n:=by omega
      obtain⟨go,rfl,hgo⟩:=HPO.out (by rw [←HNN.out];omega)
      obtain⟨m,hm⟩ : ∃m,m=n - 1:=⟨_,rfl⟩
      have em:(n:Int) - 1=(m:Int):=by omega
      have hmo:m<out.length:=by rw [←HNN.out];omega
      obtain⟨s0,s1,_,_⟩:=per_at OO.out.slice m hmo
      rw [Nat.zero_add]at s1
      have hf1:wr.frozen? ⟨go,m*2+1,none⟩=false:=by
       obtain⟨css,_,q2⟩:=OO.out
       rw [←HNN.out]at q2
       exact q2.frozenAt _
      have hmn:(m:Int)<(n:Int):=by omega
      have hmn2:m<n:=by omega
      have HEM:=Lib.hid (show m=out.length - 1 from by have:=HNN.out;omega)
      obtain⟨lt,hlt3⟩ : ∃z,z=(out[m]'hmo).to_:=⟨_,rfl⟩
      rw [←hlt3]at s1
      have HLT:=Lib.hid hlt3
      clear hn0 hm s0 hlt3
      go_wp2_with fail
      have X6:=Lib.hid ((Ext.refl wr).alloc (.cells #[.int .i64 f,.int .i64 t] 94))
      have m0:(wr.alloc (.cells #[.int .i64 f,.int .i64 t] 94)).cell? ⟨wr.heap.size,0,none⟩=some (.int .i64 f):=by simp
      have m1:(wr.alloc (.cells #[.int .i64 f,.int .i64 t] 94)).cell? ⟨wr.heap.size,1,none⟩=some (.int .i64 t):=by simp
      have m2:=X6.out.at s1
      have m3:=X6.out.unfrozen s1 hf1
      clear c0 c1 e0 s1 hf1
      generalize wr.alloc (.cells #[.int .i64 f,.int .i64 t] 94)=W5 at m0 m1 m2 m3 X6 ⊢
      have e2:=cell_lt m0
      have e3:=cell_lt m2
      by_cases hle:f≤lt
      ·have hb2:decide (f≤lt)=true:=decide_eq_true hle
       have HLE:=Lib.hid hle
       clear hle
       have hst:=OwnOf.store flat_per (by have h:=OO.out.ext X6.out;rw [HNN.out]at h;exact h) m 1 hmo (by decide) (.int .i64 (max lt t)) ⟨out[m].from_,max lt t⟩ (fun cs hcs=>by
        obtain⟨rfl,h1,h2⟩:=hcs
        refine⟨by simp [perEnc];try rfl,h1,?_⟩
        have h3:=HR.out.2
        rw [←HLT.out]at h2
        simp only [okI]at h2 h3 ⊢
        omega)
       rw [show Rep.per.size=2 from rfl]at hst
       have hob:=fun j hj=>(OO.out.lt j hj).1
       have OP6:=Lib.hid ((OP.out.ext X6.out).chg flat_per (chg_grown hst.2) fun j hj e=>by have h1:=hob j e;have h2:=HUP.out j hj;omega)
       have X7:=Lib.hid (Chg.below (chg_grown hst.2) (X5.out.trans X6.out) fun b hb=>by have h1:=hob b hb;have h2:=HB.out;omega)
       have HW6:=Lib.hid (Nat.le_trans (Nat.le_trans HW5.out X6.out.size) hst.2.size)
       have OW:=Lib.hid hst.1
       rw [←HNN.out]at OW
       clear hst hob OP X5
       go_big_region_o
       all_goals go_wp2_with fail
       all_goals go_big_region_o
       all_goals go_wp2_with fail
       all_goals go_roundg (M - (k+1))
       all_goals first
        |(case measure=>omega)
        |(case rel=>exact⟨k+1,.slice (some ⟨go,0,none⟩) n co,out.set m ⟨out[m].from_,max lt t⟩,by omega,rfl,by go_num,rfl,(by
         show _=_
         rw [HSN.out,addPer_old (by omega) (by simp only [←HEM.out];rw [←HLT.out];exact HLE.out)]
         simp only [←HEM.out]
         rw [←HLT.out]),by simp only [List.length_set];omega,OW.out.ext (Ext.refl _).drew.drew,OP6.out.ext (Ext.refl _).drew.drew,X7.out.drew.drew,HW6.out⟩)
      ·have hb2:decide (f≤lt)=false:=decide_eq_false hle
       have HLE:=Lib.hid hle
       clear hle
       go_big_region_o
       have B1:out.length + [(⟨f,t⟩:Per)].length≤maxLen:=by simp only [List.length_singleton,maxLen];omega
       have B2:(out.length + [(⟨f,t⟩:Per)].length)*16≤140737488355328:=by simp only [List.length_singleton];omega
       go_wp2_with (at_builtin;refine wpList_append_all Rep.per (fun _=>True) rfl _ _ 129 rfl B 94 i0 _ 16 Tryz.underlying129 hi hz0 hz1 hz2 rfl (by decide) (.slice (some ⟨go,0,none⟩) n co) out rfl (by exact OO.out.ext (X6.out.alloc (.cells (perEnc ⟨f,t⟩).toArray 94)).drew) _ [⟨f,t⟩] rfl (by exact lone_flat (T:=94) (cs:=perEnc ⟨f,t⟩) flat_per ⟨rfl,HR.out⟩ (OO.out.ext X6.out)) B1 B2 (by exact Nat.le_trans HW5.out (X6.out.alloc (.cells (perEnc ⟨f,t⟩).toArray 94)).drew.size) ?_)
       intro v' w6 own gr _
       have hob:=fun j hj=>(OO.out.lt j hj).1
       have OP6:=Lib.hid ((OP.out.ext ((X6.out.alloc (.cells (perEnc ⟨f,t⟩).toArray 94)).drew)).chg flat_per (chg_grown gr) fun j hj e=>by have h1:=hob j e;have h2:=HUP.out j hj;omega)
       have X7:=Lib.hid (Chg.below (chg_grown gr) (X5.out.trans ((X6.out.alloc (.cells (perEnc ⟨f,t⟩).toArray 94)).drew)) fun b hb=>by have h1:=hob b hb;have h2:=HB.out;omega)
       have HW6:=Lib.hid (Nat.le_trans (Nat.le_trans HW5.out ((X6.out.alloc (.cells (perEnc ⟨f,t⟩).toArray 94)).drew).size) gr.size)
       have OW:=Lib.hid own
       clear own gr hob OP X5
       go_wp2_with fail
       go_roundg (M - (k+1))
       case measure=>omega
       case rel=>exact⟨k+1,v',out ++ [(⟨f,t⟩:Per)],by omega,rfl,by go_num,rfl,(by
        show _=_
        rw [HSN.out,addPer_new (fun hn=>by simp only [←HEM.out];rw [←HLT.out];have h9:=HLE.out;omega)]),by simp only [List.length_append,List.length_singleton];omega,OW.out,OP6.out,X7.out,HW6.out⟩
    ·have hkM:k=M:=by omega
     have hd2 : ¬(k:Int)<(M:Int):=by omega
     have HF:=Lib.hid (show out=refNorm l from by rw [HOUT.out,hkM,HM.out,List.take_length];exact HFIN.out)
     obtain⟨po,co,rfl,_⟩:=OO.out.shapeLen
     clear hkM
     go_wp2_with fail
     go_ret
     exact⟨_,rfl,by have h:=(OO.out.weak (T:=fun _=>True) (fun _ _ h=>h) HB.out.1).fresh flat_per;rw [HF.out]at h;rw [HF.out];exact h,X5.out⟩
def perOf (t:Tup):Per:=⟨t.from_,t.to_⟩
end Go.Proofs.YtkddkbpoefidpaaGreatDoor
namespace Go.Proofs.YtkddkbpoefidpaaGreatDoor
open Go.RowKit
theorem AscOf.join {o a:List Int} (b:List Int) (h:AscOf o a):AscOf (mergeL o b) (a++b):=by
 obtain⟨h1,h2⟩:=mergeL_law o b
 have hm : ∀x,x∈mergeL o b↔x∈a++b:=fun x=>by rw [h2,List.mem_append,h.2.1]
 exact⟨h1,hm,asc_len h1 fun x hx=>(hm x).1 hx⟩
theorem bnd_step (l:List Tup) (k:Nat) (h:k<l.length):bnd (l.take (k+1))=bnd (l.take k)++if validB l[k].from_ l[k].to_=true then [l[k].from_,l[k].to_]else []:=by
 rw [List.take_succ_eq_append_getElem h,bnd_append]
 simp only [bnd,List.flatMap_cons,List.flatMap_nil,List.append_nil]
 rfl
theorem two_ints (w:World) (f t:Int) (T:TypeId) (hf:okI f∧okI t):SliceOf Rep.int (w.alloc (.cells #[.int .i64 f,.int .i64 t] T)).cell? (.slice (some ⟨w.heap.size,0,none⟩) 2 2) [f,t] :=
 slice_lit Rep.int w [.int .i64 f,.int .i64 t] T [[.int .i64 f],[.int .i64 t]] [f,t] rfl ⟨⟨rfl,hf.1⟩,⟨rfl,hf.2⟩,trivial⟩ (by simp [maxLen])
set_option maxRecDepth 100000 in
set_option maxHeartbeats 4000000 in
theorem ref_bounds (v:Value) (l:List Tup) (w:World) (hv:SliceOf Rep.tup w.cell? v l) (hl:l.length≤20000) :
  Calls Tryz.prog 60 #[v] w fun e w'=> ∃v',e = .returned v'∧SliceOf Rep.int w'.cell? v' (pts l)∧Ext w w':=by
 obtain⟨p,cap,rfl,hc1,hc2,hp⟩:=hv.form
 obtain⟨N,hN⟩ : ∃N,N=l.length:=⟨_,rfl⟩
 have HV:=Lib.hid hv
 rw [←hN]
 have HN:=Lib.hid hN
 have HP:=Lib.hid hp
 have hNl:N≤20000:=by omega
 clear hv hN hp hc1 hc2
 go_enter Tryz.func60,Tryz.ntmps60
 go_wp2_with fail
 go_loopg [3,8] N (fun gk vo vi wr=> ∃(k:Nat) (u:Value) (o:List Int),k≤N∧gk=N - k∧vi = .int .i64 k∧u=vo∧Hid (SliceOf Rep.int wr.cell? u o)∧Hid (AscOf o (bnd (l.take k)))∧Ext w wr)
 case atStart=>exact⟨0,_,[],by omega,rfl,rfl,rfl,SliceOf.nil _ _,AscOf.nil,Ext.refl w⟩
 case round =>
  obtain⟨k,u,o,hk,rfl,rfl,rfl,OW,AS,hx⟩:=hrel
  by_cases hlt:k<N
  ·have hkl:k<l.length:=by have:=HN.out;omega
   obtain⟨b,o',rfl⟩:=HP.out (by decide) (by omega)
   have hv:=HV.out
   rw [←HN.out]at hv
   obtain⟨ta,tb,c0,c1,c2,c3,g0,g1,r1,r2⟩:=tup_at hv k hkl
   obtain⟨pa,ka,ta',_⟩:=g0.form
   obtain⟨pb,kb,tb',_⟩:=g1.form
   subst ta' tb'
   replace c0:=hx.at c0
   replace c1:=hx.at c1
   replace c2:=hx.at c2
   replace c3:=hx.at c3
   have hst:=bnd_step l k hkl
   have hol:o.length≤100000:=by
    have h1:=AS.out.2.2
    have h2:=bnd_len (l.take k)
    have h3:=List.length_take_le k l
    omega
   generalize l[k].from_=f at c1 hst r1
   generalize l[k].to_=t at c2 hst r2
   generalize l[k].vals.length=na at c0
   generalize l[k].lin.length=nb at c3
   have HST:=Lib.hid hst
   have HR:=Lib.hid (show okI f∧okI t from ⟨r1,r2⟩)
   have HOL:=Lib.hid hol
   have hd:decide ((k:Int)<(N:Int))=true:=by simp;omega
   have e0:=cell_lt c0
   clear hst g0 g1 r1 r2 hv hol
   go_wp2_with fail
   refine(rvalid_any f t _).mono ?_
   rintro e w1 ⟨rfl,x1⟩
   have d1:w1.cell? ⟨wr.heap.size,1,none⟩=some (.int .i64 f):=x1.at (by go_simp)
   have d2:w1.cell? ⟨wr.heap.size,2,none⟩=some (.int .i64 t):=x1.at (by go_simp)
   have X1:=Lib.hid (show Ext wr w1 from ((Ext.refl wr).alloc _).trans x1)
   have e1:=cell_lt d1
   clear x1 c0 c1 c2 c3 e0
   cases hvb:validB f t with
   |true =>
    have HVB:=Lib.hid hvb
    clear hvb
    obtain⟨pu,cu,hu,_⟩:=OW.out.form
    subst hu
    go_wp2_with fail
    refine(ref_mergeLineage _ _ o [f,t] _ (OW.out.ext (X1.out.alloc _).full) (two_ints _ _ _ _ HR.out) (by have:=HOL.out;omega) (by simp)).mono ?_
    rintro e w2 ⟨v2,rfl,s2,x2⟩
    have S2:=Lib.hid (s2.ext (on_sub _ _))
    have X2:=Lib.hid ((hx.trans (X1.out.alloc _)).trans x2)
    have AS2:=Lib.hid (AS.out.join [f,t])
    clear s2 x2 d1 d2 e1
    go_wp2_with fail
    go_roundg (N - (k+1))
    case measure=>omega
    case rel=>exact⟨k+1,v2,mergeL o [f,t],by omega,rfl,by go_num,rfl,S2.out,by show AscOf _ _;rw [HST.out,if_pos HVB.out];exact AS2.out,X2.out⟩
   |false =>
    have HVB:=Lib.hid hvb
    clear hvb
    go_wp2_with fail
    go_roundg (N - (k+1))
    case measure=>omega
    case rel=>exact⟨k+1,u,o,by omega,rfl,by go_num,rfl,OW.out.ext X1.out.full,by show AscOf _ _;rw [HST.out,HVB.out,if_neg (by decide),List.append_nil];exact AS.out,hx.trans X1.out⟩
  ·have hkN:k=N:=by omega
   have hd : ¬(k:Int)<(N:Int):=by omega
   have HF:=Lib.hid (show o=pts l from by
    have h:=AS.out
    rw [hkN,HN.out,List.take_length]at h
    exact h.eq (pts_law l))
   clear hkN
   go_wp2_with fail
   go_ret
   exact⟨u,rfl,by rw [←HF.out];exact OW.out,hx⟩
set_option maxHeartbeats 1000000 in
theorem includes_any (f t x:Int) (w:World) :
  Calls Tryz.prog 120 #[perV f t,.int .i64 x] w fun e w'=>e = .returned (.bool (validB f t&&decide (f≤x)&&decide (x<t)))∧Ext w w':=by
 go_enter Tryz.func120,Tryz.ntmps120
 go_wp2_with fail
 refine(rvalid_any f t _).mono ?_
 rintro e w1 ⟨rfl,x1⟩
 have d0:w1.cell? ⟨w.heap.size,0,none⟩=some (.int .i64 f):=x1.at (by go_simp)
 have d1:w1.cell? ⟨w.heap.size,1,none⟩=some (.int .i64 t):=x1.at (by go_simp)
 have X1:=Lib.hid (show Ext w w1 from ((Ext.refl w).alloc _).trans x1)
 have e1:=cell_lt d1
 clear x1
 cases hvb:validB f t with
 |false =>
  go_wp2_with fail
  go_ret
  exact⟨by rw [hvb];simp,X1.out⟩
 |true =>
  by_cases h1:f≤x
  ·have hd1:decide (f≤x)=true:=by simp [h1]
   by_cases h2:x<t
   ·have hd2:decide (x<t)=true:=by simp [h2]
    go_wp2_with fail
    go_ret
    exact⟨by rw [hvb];simp [h1,h2],X1.out⟩
   ·have hd2:decide (x<t)=false:=by simp [h2]
    go_wp2_with fail
    go_ret
    exact⟨by rw [hvb];simp [h1,h2],X1.out⟩
  ·have hd1:decide (f≤x)=false:=by simp [h1]
   go_wp2_with fail
   go_ret
   exact⟨by rw [hvb,hd1];simp,X1.out⟩
end Go.Proofs.YtkddkbpoefidpaaGreatDoor
namespace Go.Proofs.YtkddkbpoefidpaaGreatDoor
open Go.RowKit
end Go.Proofs.YtkddkbpoefidpaaGreatDoor
