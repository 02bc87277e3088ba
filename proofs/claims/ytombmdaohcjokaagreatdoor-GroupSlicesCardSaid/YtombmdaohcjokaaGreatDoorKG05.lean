/- joined texts of a proof: LevW, NormI, PerS, TupT -/
import Derived.Test.YtombmdaohcjokaaGreatDoorKG04
import Derived.Test.YtombmdaohcjokaaGreatDoorKG02
import Derived.Test.YtombmdaohcjokaaGreatDoorKG03
import Derived.Test.YtombmdaohcjokaaGreatDoorKG01
import Derived.Deep.QuietTactic
import Derived.BigQuiet
import Derived.Deep.RegionWith
namespace Go.Proofs.YtombmdaohcjokaaGreatDoor
open Go.RowKit Go.Shelf Go.Sort
def Rep.evt:Rep Evt where
 size:=2
 holds _ cs x:=cs = [.int .i64 x.at_,.int .i64 x.d]∧okI x.at_∧okI x.d
 len:=by rintro w cs x ⟨rfl,_⟩;rfl
 ext:=by rintro w w' cs x h _;exact h
 one:=by rintro w cs x ⟨rfl,_⟩;simp [Value.oneCell']
theorem ok_one:okI 1:=by unfold okI;omega
theorem ok_neg:okI (-1):=by unfold okI;omega
theorem flat_evt:Rep.evt.flat:=fun _ _ _ _ h=>h
theorem flat_int':Rep.int.flat:=fun _ _ _ _ h=>h
theorem info_evt:(Tryz.prog.info? 258).map (fun i=>(i.zero,i.size,i.bytes))=some (some (.agg #[.int .i64 0,.int .i64 0]),Rep.evt.size,16):=by kernel_rfl
theorem evt_at {h:View} {b o n cap:Nat} {xs:List Evt} (k:SliceOf Rep.evt h (.slice (some ⟨b,o,none⟩) n cap) xs) (i:Nat) (hi:i<xs.length) :
  h ⟨b,o+i*2,none⟩=some (.int .i64 xs[i].at_)∧h ⟨b,o+i*2+1,none⟩=some (.int .i64 xs[i].d):=by
 obtain⟨c,⟨rfl,_⟩,h2⟩:=k.at i hi
 exact⟨h2 0 _ rfl,h2 1 _ rfl⟩
def cmpEvt (x y:Evt):Int:=cmpI x.at_ y.at_
theorem swo_evt:SWO (ltOf cmpEvt):=swo_pull ord_int.swo fun x:Evt=>x.at_
set_option maxHeartbeats 1000000 in
theorem cmpEvt_any (x y:Evt) (w:World):Calls Tryz.prog 187 #[.agg #[.int .i64 x.at_,.int .i64 x.d],.agg #[.int .i64 y.at_,.int .i64 y.d]] w fun e w'=>e = .returned (.int .i64 (cmpEvt x y))∧Gro w w':=by
 unfold cmpEvt
 obtain⟨f1,t1⟩:=x
 obtain⟨f2,t2⟩:=y
 dsimp only
 go_enter Tryz.func187,Tryz.ntmps187
 go_wp2_with fail
 refine(compare_int _ _ _).mono ?_
 rintro e w1 ⟨rfl,rfl⟩
 go_wp2_with fail
 go_ret
 exact⟨rfl,((Gro.refl w).alloc _).alloc _⟩
theorem cmpEvt_enter : ∀args w,(callFunc 187 args).run Tryz.prog w = .ok (.enter 187 args) w:=fun args w=>by kernel_rfl
theorem sortEvts_any (w:World) (S:Nat→Prop) (base:Nat) (e:TypeId) (v:Value) (xs:List Evt) (hown:OwnOf Rep.evt w S base e v xs) (hlen:xs.length<4611686018427387904) :
  Calls Tryz.prog 186 #[v,.func (.func 187) #[] #[]] w fun en w'=> ∃ys,en = .returned (.tuple #[])∧ys.Perm xs∧(ys.Pairwise fun a b=> ¬cmpEvt b a<0)∧OwnOf Rep.evt w' S base e v ys∧w.grownBy w' v.ownBlock :=
 sortFunc_gen Rep.evt cmpEvt swo_evt 187 186 4611686018427387904
  (fun β _ enc hel h1 cf hO blk off cap d w hcmp hH hblk hsz=>AnyQ.slices_SortFunc Tryz.sortEvts Rep.evt.size (fun w=>by kernel_rfl) (fun w=>by kernel_rfl) enc hel h1 cf hO 187 #[] blk off cap d w cmpEvt_enter hcmp hH hblk hsz)
  (fun p cap w=>AnyF.slices_SortFunc_none Tryz.sortEvts p cap (.func (.func 187) #[] #[]) w)
  (fun W x y cx cy hx hy=>by obtain⟨rfl,_⟩:=hx;obtain⟨rfl,_⟩:=hy;exact cmpEvt_any x y W) w S base e v xs hown hlen
def Apart (v u:Value):Prop:= ∀k,v.ownBlock=some k→u.ownBlock≠some k
theorem Apart.symm {v u:Value} (h:Apart v u):Apart u v:=fun k hk hv=>h k hv hk
theorem Apart.grow {v u:Value} {g n a b:Nat} (h:Apart v u) (hlt : ∀k,v.ownBlock=some k→k<n) (hg:u.ownBlock=some g∨g=n):Apart v (.slice (some ⟨g,0,none⟩) a b):=fun k hk e=>by
 have e:g=k:=Option.some.inj e
 subst e
 rcases hg with hg | hg
 ·exact h _ hk hg
 ·have:=hlt _ hk;omega
theorem own_apart {α:Type} {R:Rep α} (hR:R.flat) {w w':World} {S:Nat→Prop} {base:Nat} {e:TypeId} {v u:Value} {xs:List α} (h:OwnOf R w S base e v xs) (gr:w.grownBy w' u.ownBlock) (ha:Apart v u):OwnOf R w' S base e v xs :=
 h.chg hR (chg_grown gr) fun k hk hc=>ha k hk hc
theorem lit_new {α:Type} {R:Rep α} (w:World) (cells:List Value) (T:TypeId) (css:List (List Value)) (xs:List α) (hc:css.flatten=cells) (h : ∀hw,RepAll R hw css xs) (hl:xs.length≤maxLen) {v:Value} (hv : ∀k,v.ownBlock=some k→k<w.heap.size) :
  SliceOf R (on (w.alloc (.cells cells.toArray T)) (avoid (fun _=>True) v)) (.slice (some ⟨w.heap.size,0,none⟩) xs.length xs.length) xs:=by
 refine⟨css,h _,.inr ⟨_,_,rfl,Nat.le_refl _,hl,.inr ⟨_,0,rfl,fun j u hj=>on_some.2 ⟨⟨fun e=>Nat.lt_irrefl _ (hv _ e.symm),trivial⟩,?_⟩⟩⟩⟩
 rw [World.cell?_alloc_at _ _ _ _ rfl]
 rw [hc]at hj
 simpa using hj
theorem OwnOf.shapeL {α:Type} {R:Rep α} {w:World} {S:Nat→Prop} {base:Nat} {e:TypeId} {v:Value} {xs:List α} (h:OwnOf R w S base e v xs) : ∃p c,v = .slice p xs.length c∧(0<xs.length→ ∃g,p=some ⟨g,0,none⟩):=by
 rcases h.form with ⟨rfl,rfl⟩ | ⟨g,cap,rfl,_⟩
 ·exact⟨_,_,rfl,fun h=>by cases h⟩
 ·exact⟨_,_,rfl,fun _=>⟨_,rfl⟩⟩
theorem evts_take (ps:List Per) (k:Nat) (h:k<ps.length):evtsOf (ps.take (k+1))=evtsOf (ps.take k) ++ [⟨ps[k].from_,1⟩,⟨ps[k].to_,-1⟩]:=by
 rw [List.take_succ_eq_append_getElem h]
 unfold evtsOf
 rw [List.flatMap_append,List.flatMap_cons,List.flatMap_nil,List.append_nil]
set_option maxRecDepth 100000 in
set_option maxHeartbeats 8000000 in
theorem levels_any (v:Value) (ps:List Per) (w:World) (hv:SliceOf Rep.per w.cell? v ps) (hok : ∀p∈ps,validB p.from_ p.to_=true) (hl:ps.length≤524288) :
  Calls Tryz.prog 132 #[v] w fun e w'=> ∃v',e = .returned v'∧OwnOf Rep.per w' (fun _=>True) w.heap.size 123 v' (levels ps)∧Ext w w':=by
 obtain⟨i0,hi,hz0,hz1,hz2⟩:=info_parts info_evt
 obtain⟨i1,hi1,hz10,hz11,hz12⟩:=info_parts info_per
 obtain⟨i2,hi2,hz20,hz21,hz22⟩:=info_parts info_ints
 obtain⟨p,cap,rfl,hc1,hc2,hp⟩:=hv.form
 obtain⟨N,hN⟩ : ∃N,N=ps.length:=⟨_,rfl⟩
 have HV:=Lib.hid hv
 rw [←hN]
 have HN:=Lib.hid hN
 have HP:=Lib.hid hp
 have HOK:=Lib.hid hok
 have hNl:N≤524288:=by omega
 clear hv hN hp hc1 hc2 hok hl
 go_enter Tryz.func132,Tryz.ntmps132
 go_wp2_with fail
 go_loopg [3,13] N (fun gk vo vi wr=> ∃(k:Nat) (u:Value) (o:List Evt),k≤N∧gk=N - k∧vi = .int .i64 k∧u=vo∧Hid (OwnOf Rep.evt wr (fun _=>True) w.heap.size 258 u o)∧Hid (o=evtsOf (ps.take k))∧Ext w wr)
 case atStart=>exact⟨0,_,[],by omega,rfl,rfl,rfl,OwnOf.nil _ _ _ _ _,rfl,Ext.refl w⟩
 case round =>
  obtain⟨k,u,o,hk,rfl,rfl,rfl,OW,AS,hx⟩:=hrel
  by_cases hlt:k<N
  ·have hkl:k<ps.length:=by have:=HN.out;omega
   have hd:decide ((k:Int)<(N:Int))=true:=by simp;omega
   obtain⟨b,o',rfl⟩:=HP.out (by decide) (by omega)
   have hv:=HV.out
   rw [←HN.out]at hv
   obtain⟨c0,c1,r0,r1⟩:=per_at hv k hkl
   replace c0:=hx.at c0
   replace c1:=hx.at c1
   have hst:=evts_take ps k hkl
   have hol:o.length≤1048576:=by
    rw [AS.out,evts_len,List.length_take]
    omega
   rw [←AS.out]at hst
   generalize ps[k].from_=f at c0 r0 hst
   generalize ps[k].to_=t at c1 r1 hst
   have HST:=Lib.hid hst
   have HR:=Lib.hid (And.intro r0 r1)
   have HOL:=Lib.hid hol
   have e0:=cell_lt c0
   clear hst r0 r1 hv hol
   have B1:o.length+2≤maxLen:=by have:=HOL.out;unfold maxLen;omega
   have B2:(o.length+2)*16≤140737488355328:=by have:=HOL.out;omega
   go_wp2_with (at_builtin;refine wpList_append_all Rep.evt (fun _=>True) rfl _ _ 256 rfl w.heap.size 258 i0 _ 16 Tryz.underlying256 hi hz0 hz1 hz2 rfl (by decide) u o rfl ?c1 _ [⟨f,1⟩,⟨t,-1⟩] rfl ?c2 B1 B2 ?c3 ?_)
   case c1=>exact OW.out.ext (((Ext.refl wr).alloc _).alloc _)
   case c2 =>
    have h:=lit_new (R:=Rep.evt) (wr.alloc (.cells #[.int .i64 f,.int .i64 t] 123)) [.int .i64 f,.int .i64 1,.int .i64 t,.int .i64 (-1)] 258 [[.int .i64 f,.int .i64 1],[.int .i64 t,.int .i64 (-1)]] [⟨f,1⟩,⟨t,-1⟩] rfl (fun _=>⟨⟨rfl,HR.out.1,ok_one⟩,⟨rfl,HR.out.2,ok_neg⟩,trivial⟩) (by simp [maxLen]) (fun k hk=>Nat.lt_of_lt_of_le (OW.out.lt k hk).2 ((Ext.refl wr).alloc _).size)
    rw [show (wr.alloc (.cells #[.int .i64 f,.int .i64 t] 123)).heap.size=wr.heap.size+1 by simp]at h
    exact h
   case c3=>exact(hx.trans (((Ext.refl wr).alloc _).alloc _)).size
   intro v3 w3 own gr _
   have hxx:Ext w w3:=Ext.grownNew (hx.trans (((Ext.refl wr).alloc _).alloc _)) gr OW.out.base
   have OW2:=Lib.hid own
   clear own gr
   go_wp2_with fail
   go_roundg (N - (k+1))
   case measure=>omega
   case rel=>exact⟨k+1,v3,_,by omega,rfl,by go_num,rfl,OW2.out,by show _=_;rw [HST.out],hxx⟩
  ·have hkN:k=N:=by omega
   have hd : ¬(k:Int)<(N:Int):=by omega
   have HO:=Lib.hid (show o=evtsOf ps from by
    have h:=AS.out
    rw [hkN,HN.out,List.take_length]at h
    exact h)
   have hol:o.length≤1048576:=by rw [HO.out,evts_len];have:=HN.out;omega
   have HOL:=Lib.hid hol
   clear hkN hol AS
   go_wp2_with fail
   refine(sortEvts_any _ _ _ _ _ _ OW.out (by have:=HOL.out;omega)).mono ?_
   rintro e w4 ⟨es,rfl,hperm,hsort,own4,gr4⟩
   have X4:=Lib.hid (Ext.grownNew hx gr4 OW.out.base)
   have HE:EvtsAt ps es:=⟨by rw [←HO.out];exact hperm,hsort.imp fun {a b} h=>by unfold cmpEvt cmpI at h;(repeat' split at h) <;> omega,HOK.out⟩
   have hel:es.length≤1048576:=by rw [hperm.length_eq];exact HOL.out
   have hdr : ∀j:Nat,-(j:Int)≤dsum (es.take j)∧dsum (es.take j)≤(j:Int):=fun j=>by
    induction j with
    |zero=>exact⟨by show _≤(0:Int);omega,by show (0:Int)≤_;omega⟩
    |succ j ih =>
     by_cases hj:j<es.length
     ·rw [dsum_take es j hj]
      have h1:es[j].d=1∨es[j].d = -1:=by
       have hm:=HE.perm.mem_iff.1 (List.getElem_mem hj)
       obtain⟨p,_,hp⟩:=List.mem_flatMap.1 hm
       simp at hp
       rcases hp with hp | hp <;> rw [hp] <;> simp
      push_cast
      omega
     ·rw [List.take_of_length_le (by omega)]
      rw [List.take_of_length_le (by omega)]at ih
      push_cast
      omega
   have hed : ∀j (hj:j<es.length),okI es[j].at_∧(es[j].d=1∨es[j].d = -1):=fun j hj=>by
    have hm:=HE.perm.mem_iff.1 (List.getElem_mem hj)
    obtain⟨p,hp1,hp⟩:=List.mem_flatMap.1 hm
    have hv:=validB_lt (HE.ok p hp1)
    simp at hp
    rcases hp with hp | hp <;> rw [hp] <;> unfold okI <;> simp <;> omega
   have HEV:=Lib.hid HE
   have HDR:=Lib.hid hdr
   have HED:=Lib.hid hed
   have OW4:=Lib.hid own4
   obtain⟨pe,ce,rfl,hpe⟩:=own4.shapeL
   obtain⟨n,hn⟩ : ∃n,n=es.length:=⟨_,rfl⟩
   have hn6:n≤1048576:=by omega
   rw [←hn]at OW4 ⊢
   have HNE:=Lib.hid hn
   have HPE:=Lib.hid hpe
   obtain⟨K,hK⟩ : ∃K,K=(levPts ps).length:=⟨_,rfl⟩
   have HK:=Lib.hid hK
   clear hperm hsort own4 gr4 HE hel hdr hed hn hK hpe HO HOL OW hx
   go_wp2_with fail
   go_loopg [6,7,8] K (fun gk vo vu vi wr=> ∃(k:Nat) (uo uu:Value),k≤K∧gk=K - k∧vi = .int .i64 (idxOf es (levPts ps) k:Nat)∧uo=vo∧uu=vu∧Hid (OwnOf Rep.int wr (fun _=>True) w.heap.size 3 uo (levOf (levPts ps) (levF ps) k).1)∧Hid (OwnOf Rep.per wr (fun _=>True) w.heap.size 123 uu (levOf (levPts ps) (levF ps) k).2)∧Hid (OwnOf Rep.evt wr (fun _=>True) w.heap.size 258 (.slice pe n ce) es)∧Hid (Apart uo uu∧Apart (.slice pe n ce) uo∧Apart (.slice pe n ce) uu)∧Hid ((levOf (levPts ps) (levF ps) k).2.length≤1048576*k)∧Ext w wr)
   case atStart=>exact⟨0,_,_,by omega,rfl,rfl,rfl,rfl,OwnOf.nil _ _ _ _ _,OwnOf.nil _ _ _ _ _,OW4.out,⟨fun k hk=>(by cases hk),fun k hk e=>(by cases e),fun k hk e=>(by cases e)⟩,Nat.zero_le _,X4.out⟩
   case round =>
    obtain⟨k,uo,uu,hk,rfl,rfl,rfl,rfl,OO,OU,OE,AP,HUL,hx5⟩:=hrel
    by_cases hlt2:k<K
    ·have hkp:k<(levPts ps).length:=by rw [←HK.out];exact hlt2
     obtain⟨hi0,hat⟩:=HEV.out.next hkp
     have hmono:=HEV.out.mono hkp
     have hka:=HEV.out.idx_ge k (by omega)
     have hol:=HEV.out.openLen (k:=k) (by omega)
     have hdk:=HEV.out.depth (k:=k)
     have hi1:idxOf es (levPts ps) (k+1)≤es.length:=upto_le es _
     have hhere:=fun(j:Nat) h1 h2=>HEV.out.here (j:=j) hkp h1 h2
     have hstep:levOf (levPts ps) (levF ps) (k+1)=levStep (levF ps k) (levPts ps)[k]! (levOf (levPts ps) (levF ps) k):=rfl
     have hokp:okI (levPts ps)[k]! := by rw [←hat];exact(HED.out _ hi0).1
     generalize (levPts ps)[k]! = at_ at hat hhere hstep hokp
     generalize levF ps k=d at hdk hstep
     obtain⟨⟨op,ou⟩,hlk⟩ : ∃q,q=levOf (levPts ps) (levF ps) k:=⟨_,rfl⟩
     rw [←hlk]at OO OU HUL hol hstep
     dsimp only at OO OU HUL hol
     have HSTEP:=Lib.hid hstep
     obtain⟨a0,ha0⟩ : ∃a,a=idxOf es (levPts ps) k:=⟨_,rfl⟩
     obtain⟨a1,ha1⟩ : ∃a,a=idxOf es (levPts ps) (k+1):=⟨_,rfl⟩
     rw [←ha0]at hi0 hhere hol hmono hka ⊢
     rw [←ha1]at hmono hdk hi1 hhere
     simp only [←ha0]at hat
     have HA1:=Lib.hid ha1
     have HHERE:=Lib.hid hhere
     have HDK:=Lib.hid hdk
     have HOKP:=Lib.hid hokp
     obtain⟨po,co,rfl,hpo⟩:=OO.out.shapeL
     obtain⟨L,hL⟩ : ∃L,L=op.length:=⟨_,rfl⟩
     have hLd:(L:Int)=dsum (es.take a0):=by rw [hL];exact hol
     have hLn:L≤1048576:=by have:=(HDR.out a0).2;have:=HNE.out;omega
     have hdn:d≤1048576:=by have:=(HDR.out a1).2;have:=HDK.out;have:=HNE.out;omega
     have HLL:=Lib.hid hL
     rw [←hL]at OO AP ⊢
     have HLD:=Lib.hid hLd
     have hn0:a0<n:=by have:=HNE.out;omega
     have hn1:a1≤n:=by have:=HNE.out;omega
     have hd0:decide ((a0:Int)<(n:Int))=true:=by simp;omega
     have hd0':(a0:Int)<(n:Int):=by omega
     obtain⟨ge,rfl⟩:=HPE.out (by have:=HNE.out;omega)
     have hse:=OE.out.slice
     obtain⟨c0,c1⟩:=evt_at hse a0 hi0
     rw [hat]at c0
     simp only [Nat.zero_add]at c0 c1
     have e0:=cell_lt c0
     have HPO:=Lib.hid hpo
     have hm01:a0<a1:=hmono
     clear hat hmono hol hdk hi1 hhere hstep hokp hlk ha0 ha1 hL hLd hpo hse hi0 c1 hkp
     go_wp2_with fail
     go_loopg [8,10] (a1 - a0) (fun gk vi vd wq=> ∃(j:Nat),a0≤j∧j≤a1∧gk=a1 - j∧vi = .int .i64 j∧vd = .int .i64 (dsum (es.take j))∧wq=wr)
     case atStart=>exact⟨a0,Nat.le_refl _,Nat.le_of_lt hm01,rfl,rfl,by rw [←HLD.out],rfl⟩
     case round =>
      obtain⟨j,hj0,hj1,rfl,rfl,rfl,rfl⟩:=hrel
      by_cases hlt3:j<a1
      ·have hjl:j<es.length:=by have:=HNE.out;omega
       have hjn:(j:Int)<(n:Int):=by omega
       have hdj:decide ((j:Int)<(n:Int))=true:=by simp;omega
       have hpt:=(HHERE.out j hj0 hjl).2 hlt3
       obtain⟨b0,b1⟩:=evt_at OE.out.slice j hjl
       rw [hpt]at b0
       simp only [Nat.zero_add]at b0 b1
       have hst:=dsum_take es j hjl
       have hdd:=(HED.out j hjl).2
       have hr1:=HDR.out j
       have hr2:=HDR.out (j+1)
       generalize es[j].d=z at b1 hst hdd
       have hsum:dsum (es.take j)+z=dsum (es.take (j+1)):=hst.symm
       have hw3:IntKind.i64.wrap (dsum (es.take (j+1)))=dsum (es.take (j+1)):=by rw [IntKind.wrap_i64];omega
       have hbq:(at_==at_)=true:=by simp
       clear hst hdd hr1 hr2 hpt
       go_wp2_with fail
       go_roundg (a1 - (j+1))
       case measure=>omega
       case rel=>exact⟨j+1,by omega,by omega,rfl,by go_num,rfl,rfl⟩
      ·have hja:a1=j:=by omega
       subst hja
       rw [HDK.out]
       have hk2:k≤1048576:=by omega
       clear hka hj0 hj1 hlt3
       rcases Nat.lt_or_ge a1 n with hjn | hjn
       ·have hdj:decide ((a1:Int)<(n:Int))=true:=by simp;omega
        have hdj':(a1:Int)<(n:Int):=by omega
        have hjl:a1<es.length:=by have:=HNE.out;omega
        obtain⟨b0,b1⟩:=evt_at OE.out.slice a1 hjl
        simp only [Nat.zero_add]at b0 b1
        have hne : ¬es[a1].at_=at_:=fun e=>Nat.lt_irrefl a1 ((HHERE.out a1 (Nat.le_of_lt hm01) hjl).1 e)
        generalize es[a1].at_=z at b0 hne
        have hbq:(z==at_)=false:=by simp [hne]
        clear b1 hne hjl
        go_wp2_with fail
        go_loopg [6,7] (L - d) (fun gk vo vu wq=> ∃(m:Nat) (uo uv:Value),m≤L∧(L≤d→m=L)∧(d≤L→d≤m)∧gk=m - d∧uo=vo∧uv=vu∧Hid (OwnOf Rep.int wq (fun _=>True) w.heap.size 3 uo (op.take m))∧Hid (OwnOf Rep.per wq (fun _=>True) w.heap.size 123 uv (ou++(op.drop m).reverse.map fun s=>⟨s,at_⟩))∧Hid (OwnOf Rep.evt wq (fun _=>True) w.heap.size 258 (.slice (some ⟨ge,0,none⟩) n ce) es)∧Hid (Apart uo uv∧Apart (.slice (some ⟨ge,0,none⟩) n ce) uo∧Apart (.slice (some ⟨ge,0,none⟩) n ce) uv)∧Ext w wq)
        case atStart=>exact⟨L,_,_,Nat.le_refl _,fun _=>rfl,fun h=>h,rfl,rfl,rfl,by rw [List.take_of_length_le (by rw [HLL.out];exact Nat.le_refl _)];exact OO.out,by rw [List.drop_eq_nil_of_le (by rw [HLL.out];exact Nat.le_refl _)];show OwnOf Rep.per _ _ _ _ _ (ou ++ []);rw [List.append_nil];exact OU.out,OE.out,AP.out,hx5⟩
        case round =>
         obtain⟨m,uo,uv,hmL,hmA,hmB,rfl,rfl,rfl,OO4,OU4,OE4,AP4,hx6⟩:=hrel
         have hlm:(op.take m).length=m:=by rw [List.length_take,←HLL.out];omega
         by_cases hg:d<m
         ·obtain⟨q,hq⟩ : ∃q,q=m - 1:=⟨_,rfl⟩
          have hqL:q<op.length:=by have:=HLL.out;omega
          rcases OO4.out.form with ⟨_,hnil⟩ | ⟨g,cap',rfl,hgb,hgc,hgm⟩
          ·rw [hnil]at hlm;simp at hlm;omega
          obtain⟨s0,sr⟩:=int_at OO4.out.slice q (by rw [hlm];omega)
          rw [hlm]at hgc OO4 AP4 ⊢
          have hsq:(op.take m)[q]'(by rw [hlm];omega)=op[q]:=List.getElem_take
          rw [hsq]at s0 sr
          have htq:(op.take m).take q=op.take q:=by rw [List.take_take];congr 1;omega
          have hdq:op.drop q=op[q]::op.drop m:=by rw [List.drop_eq_getElem_cons hqL];congr 2;omega
          have OT:=Lib.hid (show OwnOf Rep.int wr (fun _=>True) w.heap.size 3 (.slice (some ⟨g,0,none⟩) q cap') (op.take q)from by
           have h:=OwnOf.take (n:=q) (by rw [hlm];exact OO4.out) (by rw [hlm];omega)
           rw [htq]at h
           exact h)
          generalize op[q]=z0 at s0 sr hdq
          have HDQ:=Lib.hid hdq
          have HSR:=Lib.hid (show okI z0 from sr)
          simp only [Nat.zero_add]at s0
          have em:(m:Int) - 1=(q:Int):=by omega
          have hqm:(q:Int)<(m:Int):=by omega
          have hqc:q≤cap':=by omega
          have hqc':(q:Int)≤(cap':Int):=by omega
          have hwq:IntKind.i64.wrap (q:Int)=(q:Int):=by rw [IntKind.wrap_i64];omega
          have hgd:decide ((d:Int)<(m:Int))=true:=by simp;omega
          have hul:(ou++(op.drop m).reverse.map fun s=>(⟨s,at_⟩:Per)).length≤1048576*(k+1):=by
           have h1:=HUL.out
           have h2:=HLL.out
           simp only [List.length_append,List.length_map,List.length_reverse,List.length_drop]
           omega
          obtain⟨ys7,hys⟩ : ∃x,x=ou++(op.drop m).reverse.map fun s=>(⟨s,at_⟩:Per):=⟨_,rfl⟩
          rw [←hys]at hul OU4
          have HYS:=Lib.hid hys
          clear hys
          have B1:ys7.length+1≤maxLen:=by unfold maxLen;omega
          have B2:(ys7.length+1)*16≤140737488355328:=by omega
          have HAP:=Lib.hid (show Apart (.slice (some ⟨g,0,none⟩) q cap') uv from fun x hx=>AP4.out.1 x hx)
          have HAQ:=Lib.hid (show Apart (.slice (some ⟨ge,0,none⟩) n ce) (.slice (some ⟨g,0,none⟩) q cap')from fun x hx=>AP4.out.2.1 x hx)
          have e6:=cell_lt s0
          have HQQ:=Lib.hid hq
          clear hsq htq hdq sr hul hlm hgc hgm OO4 hgb hq
          go_wp2_with (at_builtin;refine wpList_append_one Rep.per (fun _=>True) rfl _ _ 149 rfl w.heap.size 123 i1 _ 16 Tryz.underlying149 hi1 hz10 hz11 hz12 rfl (by decide) uv _ rfl (OU4.out.ext ((Ext.refl wr).alloc _)) ⟨wr.heap.size,0,none⟩ 1 ⟨z0,at_⟩ [.int .i64 z0,.int .i64 at_] rfl ⟨rfl,HSR.out,HOKP.out⟩ (by exact cells_new wr [.int .i64 z0,.int .i64 at_] _) B1 B2 (by exact(hx6.alloc _).size) ?_)
          intro g7 cap7 w7 own7 gr7 hg7
          have X7:=Lib.hid (show Ext w w7 from Ext.grownNew (hx6.alloc _) gr7 OU4.out.base)
          have OT7:=Lib.hid (own_apart flat_int' (OT.out.ext ((Ext.refl wr).alloc _)) gr7 HAP.out)
          have OE7:=Lib.hid (own_apart flat_evt (OE4.out.ext ((Ext.refl wr).alloc _)) gr7 AP4.out.2.2)
          have AP7:=Lib.hid (show Apart (.slice (some ⟨g,0,none⟩) q cap') (.slice (some ⟨g7,0,none⟩) (ys7.length+1) cap7)∧Apart (.slice (some ⟨ge,0,none⟩) n ce) (.slice (some ⟨g,0,none⟩) q cap')∧Apart (.slice (some ⟨ge,0,none⟩) n ce) (.slice (some ⟨g7,0,none⟩) (ys7.length+1) cap7)from
           ⟨HAP.out.grow (fun x hx=>Nat.lt_succ_of_lt (OT.out.lt x hx).2) hg7,HAQ.out,AP4.out.2.2.grow (fun x hx=>Nat.lt_succ_of_lt (OE4.out.lt x hx).2) hg7⟩)
          have OU7:=Lib.hid (show OwnOf Rep.per w7 (fun _=>True) w.heap.size 123 (.slice (some ⟨g7,0,none⟩) (ys7.length+1) cap7) (ou++(op.drop q).reverse.map fun s=>⟨s,at_⟩)from by
           rw [HDQ.out,List.reverse_cons,List.map_append,←List.append_assoc,←HYS.out]
           exact own7)
          clear own7 gr7 hg7 OT OU4 OE4 AP4 HAP HAQ s0 e6 hx6
          generalize ys7.length+1=ln7 at *
          go_wp2_with fail
          have hq:=HQQ.out
          go_roundg (q - d)
          case measure=>omega
          case rel=>exact⟨q,_,_,by omega,fun h=>by omega,fun h=>by omega,rfl,rfl,rfl,OT7.out,OU7.out,OE7.out,AP7.out,X7.out⟩
         ·have hmd:op.take m=op.take d∧op.drop m=op.drop d:=by
           rcases Nat.le_total L d with h | h
           ·have:=hmA h
            subst this
            have h2:=HLL.out
            exact⟨by rw [List.take_of_length_le (by omega),List.take_of_length_le (by omega)],by rw [List.drop_eq_nil_of_le (by omega),List.drop_eq_nil_of_le (by omega)]⟩
           ·have:m=d:=by have:=hmB h;omega
            subst this
            exact⟨rfl,rfl⟩
          have hgd:decide ((d:Int)<(m:Int))=false:=by simp;omega
          have hmm:m≤d:=by omega
          have hmq:m=min d L:=by rcases Nat.le_total L d with h | h;have:=hmA h;omega;have:=hmB h;omega
          obtain⟨p8,c8,rfl,hp8⟩:=OO4.out.shapeL
          rw [hlm]at OO4 AP4 ⊢
          rw [hmd.1]at OO4
          rw [hmd.2]at OU4
          have HUL5:=Lib.hid (show (ou++(op.drop d).reverse.map fun s=>(⟨s,at_⟩:Per)).length≤1048576*(k+1)from by
           have h1:=HUL.out
           have h2:=HLL.out
           simp only [List.length_append,List.length_map,List.length_reverse,List.length_drop]
           omega)
          have HMQ:=Lib.hid hmq
          clear hmd hlm hp8 hg hmA hmB hmq
          go_wp2_with fail
          go_loopg [6] (d - L) (fun gk vo wq=> ∃(q:Nat) (uo:Value),q≤d - L∧gk=d - L - q∧uo=vo∧Hid (OwnOf Rep.int wq (fun _=>True) w.heap.size 3 uo (op.take d++List.replicate q at_))∧Hid (OwnOf Rep.per wq (fun _=>True) w.heap.size 123 uv (ou++(op.drop d).reverse.map fun s=>⟨s,at_⟩))∧Hid (OwnOf Rep.evt wq (fun _=>True) w.heap.size 258 (.slice (some ⟨ge,0,none⟩) n ce) es)∧Hid (Apart uo uv∧Apart (.slice (some ⟨ge,0,none⟩) n ce) uo∧Apart (.slice (some ⟨ge,0,none⟩) n ce) uv)∧Ext w wq)
          case atStart=>exact⟨0,_,Nat.zero_le _,rfl,rfl,by show OwnOf Rep.int _ _ _ _ _ (op.take d ++ []);rw [List.append_nil];exact OO4.out,OU4.out,OE4.out,AP4.out,hx6⟩
          case round =>
           obtain⟨q,uo,hqd,rfl,rfl,OO5,OU5,OE5,AP5,hx7⟩:=hrel
           have hl5:(op.take d++List.replicate q at_).length=m+q:=by
            rw [List.length_append,List.length_take,List.length_replicate,←HLL.out,HMQ.out]
           obtain⟨xs5,hxs⟩ : ∃x,x=op.take d++List.replicate q at_:=⟨_,rfl⟩
           rw [←hxs]at hl5 OO5
           have HXS:=Lib.hid hxs
           clear hxs
           obtain⟨p5,c5,rfl,hp5⟩:=OO5.out.shapeL
           rw [hl5]at OO5 AP5 ⊢
           obtain⟨r,hr⟩ : ∃r,r=m+q:=⟨_,rfl⟩
           rw [←hr]at hl5 OO5 AP5 ⊢
           have HRR:=Lib.hid hr
           by_cases hg5:q<d - L
           ·have hgd5:decide ((r:Int)<(d:Int))=true:=by have:=HRR.out;have:=HMQ.out;simp;omega
            have hgd6:(r:Int)<(d:Int):=by have:=HRR.out;have:=HMQ.out;omega
            have hgd7:r<d:=by omega
            have HL5:=Lib.hid hl5
            have B1:xs5.length+1≤maxLen:=by have:=HRR.out;have:=HMQ.out;rw [hl5];unfold maxLen;omega
            have B2:(xs5.length+1)*8≤140737488355328:=by have:=HRR.out;have:=HMQ.out;rw [hl5];omega
            clear hl5 hp5 hr
            go_wp2_with (at_builtin;refine wpList_append_one Rep.int (fun _=>True) rfl _ _ 29 rfl w.heap.size 3 i2 _ 8 Tryz.underlying29 hi2 hz20 hz21 hz22 rfl (by decide) (.slice p5 r c5) _ rfl (OO5.out.ext ((Ext.refl wr).alloc _)) ⟨wr.heap.size,0,none⟩ 1 at_ [.int .i64 at_] rfl ⟨rfl,HOKP.out⟩ (by exact cells_new wr [.int .i64 at_] _) B1 B2 (by exact(hx7.alloc _).size) ?_)
            intro g8 cap8 w8 own8 gr8 hg8
            have X8:=Lib.hid (show Ext w w8 from Ext.grownNew (hx7.alloc _) gr8 OO5.out.base)
            have OU8:=Lib.hid (own_apart flat_per (OU5.out.ext ((Ext.refl wr).alloc _)) gr8 AP5.out.1.symm)
            have OE8:=Lib.hid (own_apart flat_evt (OE5.out.ext ((Ext.refl wr).alloc _)) gr8 AP5.out.2.1)
            have OO8:=Lib.hid (show OwnOf Rep.int w8 (fun _=>True) w.heap.size 3 (.slice (some ⟨g8,0,none⟩) (r+1) cap8) (op.take d++List.replicate (q+1) at_)from by
             rw [List.replicate_succ',←List.append_assoc,←HXS.out]
             rw [HL5.out]at own8
             exact own8)
            have AP8:=Lib.hid (show Apart (.slice (some ⟨g8,0,none⟩) (r+1) cap8) uv∧Apart (.slice (some ⟨ge,0,none⟩) n ce) (.slice (some ⟨g8,0,none⟩) (r+1) cap8)∧Apart (.slice (some ⟨ge,0,none⟩) n ce) uv from
             ⟨(AP5.out.1.symm.grow (fun x hx=>Nat.lt_succ_of_lt (OU5.out.lt x hx).2) hg8).symm,AP5.out.2.1.grow (fun x hx=>Nat.lt_succ_of_lt (OE5.out.lt x hx).2) hg8,AP5.out.2.2⟩)
            clear own8 gr8 hg8 OO5 OU5 OE5 AP5 hx7
            rw [HL5.out]
            go_wp2_with fail
            go_roundg (d - L - (q+1))
            case measure=>omega
            case rel=>exact⟨q+1,_,by omega,rfl,rfl,OO8.out,OU8.out,OE8.out,AP8.out,X8.out⟩
           ·have hqe:q=d - L:=by omega
            have hgd5:decide ((r:Int)<(d:Int))=false:=by have:=HRR.out;have:=HMQ.out;simp;omega
            have hgd6 : ¬(r:Int)<(d:Int):=by have:=HRR.out;have:=HMQ.out;omega
            have hgd7 : ¬r<d:=by omega
            have HS:=Lib.hid (show levOf (levPts ps) (levF ps) (k+1)=(op.take d++List.replicate q at_,ou++(op.drop d).reverse.map fun s=>⟨s,at_⟩)from by rw [HSTEP.out,hqe,HLL.out];rfl)
            clear hl5 hp5 hqe hr
            go_wp2_with fail
            go_roundg (K - (k+1))
            case measure=>omega
            case rel=>exact⟨k+1,_,_,by omega,rfl,by rw [HA1.out],rfl,rfl,by rw [HS.out];show OwnOf Rep.int _ _ _ _ _ (op.take d++List.replicate q at_);rw [←HXS.out];exact OO5.out,by rw [HS.out];exact OU5.out,OE5.out,AP5.out,by rw [HS.out];exact HUL5.out,hx7⟩
       ·have hdj:decide ((a1:Int)<(n:Int))=false:=by simp;omega
        have hdj' : ¬(a1:Int)<(n:Int):=by omega
        go_wp2_with fail
        go_loopg [6,7] (L - d) (fun gk vo vu wq=> ∃(m:Nat) (uo uv:Value),m≤L∧(L≤d→m=L)∧(d≤L→d≤m)∧gk=m - d∧uo=vo∧uv=vu∧Hid (OwnOf Rep.int wq (fun _=>True) w.heap.size 3 uo (op.take m))∧Hid (OwnOf Rep.per wq (fun _=>True) w.heap.size 123 uv (ou++(op.drop m).reverse.map fun s=>⟨s,at_⟩))∧Hid (OwnOf Rep.evt wq (fun _=>True) w.heap.size 258 (.slice (some ⟨ge,0,none⟩) n ce) es)∧Hid (Apart uo uv∧Apart (.slice (some ⟨ge,0,none⟩) n ce) uo∧Apart (.slice (some ⟨ge,0,none⟩) n ce) uv)∧Ext w wq)
        case atStart=>exact⟨L,_,_,Nat.le_refl _,fun _=>rfl,fun h=>h,rfl,rfl,rfl,by rw [List.take_of_length_le (by rw [HLL.out];exact Nat.le_refl _)];exact OO.out,by rw [List.drop_eq_nil_of_le (by rw [HLL.out];exact Nat.le_refl _)];show OwnOf Rep.per _ _ _ _ _ (ou ++ []);rw [List.append_nil];exact OU.out,OE.out,AP.out,hx5⟩
        case round =>
         obtain⟨m,uo,uv,hmL,hmA,hmB,rfl,rfl,rfl,OO4,OU4,OE4,AP4,hx6⟩:=hrel
         have hlm:(op.take m).length=m:=by rw [List.length_take,←HLL.out];omega
         by_cases hg:d<m
         ·obtain⟨q,hq⟩ : ∃q,q=m - 1:=⟨_,rfl⟩
          have hqL:q<op.length:=by have:=HLL.out;omega
          rcases OO4.out.form with ⟨_,hnil⟩ | ⟨g,cap',rfl,hgb,hgc,hgm⟩
          ·rw [hnil]at hlm;simp at hlm;omega
          obtain⟨s0,sr⟩:=int_at OO4.out.slice q (by rw [hlm];omega)
          rw [hlm]at hgc OO4 AP4 ⊢
          have hsq:(op.take m)[q]'(by rw [hlm];omega)=op[q]:=List.getElem_take
          rw [hsq]at s0 sr
          have htq:(op.take m).take q=op.take q:=by rw [List.take_take];congr 1;omega
          have hdq:op.drop q=op[q]::op.drop m:=by rw [List.drop_eq_getElem_cons hqL];congr 2;omega
          have OT:=Lib.hid (show OwnOf Rep.int wr (fun _=>True) w.heap.size 3 (.slice (some ⟨g,0,none⟩) q cap') (op.take q)from by
           have h:=OwnOf.take (n:=q) (by rw [hlm];exact OO4.out) (by rw [hlm];omega)
           rw [htq]at h
           exact h)
          generalize op[q]=z0 at s0 sr hdq
          have HDQ:=Lib.hid hdq
          have HSR:=Lib.hid (show okI z0 from sr)
          simp only [Nat.zero_add]at s0
          have em:(m:Int) - 1=(q:Int):=by omega
          have hqm:(q:Int)<(m:Int):=by omega
          have hqc:q≤cap':=by omega
          have hqc':(q:Int)≤(cap':Int):=by omega
          have hwq:IntKind.i64.wrap (q:Int)=(q:Int):=by rw [IntKind.wrap_i64];omega
          have hgd:decide ((d:Int)<(m:Int))=true:=by simp;omega
          have hul:(ou++(op.drop m).reverse.map fun s=>(⟨s,at_⟩:Per)).length≤1048576*(k+1):=by
           have h1:=HUL.out
           have h2:=HLL.out
           simp only [List.length_append,List.length_map,List.length_reverse,List.length_drop]
           omega
          obtain⟨ys7,hys⟩ : ∃x,x=ou++(op.drop m).reverse.map fun s=>(⟨s,at_⟩:Per):=⟨_,rfl⟩
          rw [←hys]at hul OU4
          have HYS:=Lib.hid hys
          clear hys
          have B1:ys7.length+1≤maxLen:=by unfold maxLen;omega
          have B2:(ys7.length+1)*16≤140737488355328:=by omega
          have HAP:=Lib.hid (show Apart (.slice (some ⟨g,0,none⟩) q cap') uv from fun x hx=>AP4.out.1 x hx)
          have HAQ:=Lib.hid (show Apart (.slice (some ⟨ge,0,none⟩) n ce) (.slice (some ⟨g,0,none⟩) q cap')from fun x hx=>AP4.out.2.1 x hx)
          have e6:=cell_lt s0
          have HQQ:=Lib.hid hq
          clear hsq htq hdq sr hul hlm hgc hgm OO4 hgb hq
          go_wp2_with (at_builtin;refine wpList_append_one Rep.per (fun _=>True) rfl _ _ 149 rfl w.heap.size 123 i1 _ 16 Tryz.underlying149 hi1 hz10 hz11 hz12 rfl (by decide) uv _ rfl (OU4.out.ext ((Ext.refl wr).alloc _)) ⟨wr.heap.size,0,none⟩ 1 ⟨z0,at_⟩ [.int .i64 z0,.int .i64 at_] rfl ⟨rfl,HSR.out,HOKP.out⟩ (by exact cells_new wr [.int .i64 z0,.int .i64 at_] _) B1 B2 (by exact(hx6.alloc _).size) ?_)
          intro g7 cap7 w7 own7 gr7 hg7
          have X7:=Lib.hid (show Ext w w7 from Ext.grownNew (hx6.alloc _) gr7 OU4.out.base)
          have OT7:=Lib.hid (own_apart flat_int' (OT.out.ext ((Ext.refl wr).alloc _)) gr7 HAP.out)
          have OE7:=Lib.hid (own_apart flat_evt (OE4.out.ext ((Ext.refl wr).alloc _)) gr7 AP4.out.2.2)
          have AP7:=Lib.hid (show Apart (.slice (some ⟨g,0,none⟩) q cap') (.slice (some ⟨g7,0,none⟩) (ys7.length+1) cap7)∧Apart (.slice (some ⟨ge,0,none⟩) n ce) (.slice (some ⟨g,0,none⟩) q cap')∧Apart (.slice (some ⟨ge,0,none⟩) n ce) (.slice (some ⟨g7,0,none⟩) (ys7.length+1) cap7)from
           ⟨HAP.out.grow (fun x hx=>Nat.lt_succ_of_lt (OT.out.lt x hx).2) hg7,HAQ.out,AP4.out.2.2.grow (fun x hx=>Nat.lt_succ_of_lt (OE4.out.lt x hx).2) hg7⟩)
          have OU7:=Lib.hid (show OwnOf Rep.per w7 (fun _=>True) w.heap.size 123 (.slice (some ⟨g7,0,none⟩) (ys7.length+1) cap7) (ou++(op.drop q).reverse.map fun s=>⟨s,at_⟩)from by
           rw [HDQ.out,List.reverse_cons,List.map_append,←List.append_assoc,←HYS.out]
           exact own7)
          clear own7 gr7 hg7 OT OU4 OE4 AP4 HAP HAQ s0 e6 hx6
          generalize ys7.length+1=ln7 at *
          go_wp2_with fail
          have hq:=HQQ.out
          go_roundg (q - d)
          case measure=>omega
          case rel=>exact⟨q,_,_,by omega,fun h=>by omega,fun h=>by omega,rfl,rfl,rfl,OT7.out,OU7.out,OE7.out,AP7.out,X7.out⟩
         ·have hmd:op.take m=op.take d∧op.drop m=op.drop d:=by
           rcases Nat.le_total L d with h | h
           ·have:=hmA h
            subst this
            have h2:=HLL.out
            exact⟨by rw [List.take_of_length_le (by omega),List.take_of_length_le (by omega)],by rw [List.drop_eq_nil_of_le (by omega),List.drop_eq_nil_of_le (by omega)]⟩
           ·have:m=d:=by have:=hmB h;omega
            subst this
            exact⟨rfl,rfl⟩
          have hgd:decide ((d:Int)<(m:Int))=false:=by simp;omega
          have hmm:m≤d:=by omega
          have hmq:m=min d L:=by rcases Nat.le_total L d with h | h;have:=hmA h;omega;have:=hmB h;omega
          obtain⟨p8,c8,rfl,hp8⟩:=OO4.out.shapeL
          rw [hlm]at OO4 AP4 ⊢
          rw [hmd.1]at OO4
          rw [hmd.2]at OU4
          have HUL5:=Lib.hid (show (ou++(op.drop d).reverse.map fun s=>(⟨s,at_⟩:Per)).length≤1048576*(k+1)from by
           have h1:=HUL.out
           have h2:=HLL.out
           simp only [List.length_append,List.length_map,List.length_reverse,List.length_drop]
           omega)
          have HMQ:=Lib.hid hmq
          clear hmd hlm hp8 hg hmA hmB hmq
          go_wp2_with fail
          go_loopg [6] (d - L) (fun gk vo wq=> ∃(q:Nat) (uo:Value),q≤d - L∧gk=d - L - q∧uo=vo∧Hid (OwnOf Rep.int wq (fun _=>True) w.heap.size 3 uo (op.take d++List.replicate q at_))∧Hid (OwnOf Rep.per wq (fun _=>True) w.heap.size 123 uv (ou++(op.drop d).reverse.map fun s=>⟨s,at_⟩))∧Hid (OwnOf Rep.evt wq (fun _=>True) w.heap.size 258 (.slice (some ⟨ge,0,none⟩) n ce) es)∧Hid (Apart uo uv∧Apart (.slice (some ⟨ge,0,none⟩) n ce) uo∧Apart (.slice (some ⟨ge,0,none⟩) n ce) uv)∧Ext w wq)
          case atStart=>exact⟨0,_,Nat.zero_le _,rfl,rfl,by show OwnOf Rep.int _ _ _ _ _ (op.take d ++ []);rw [List.append_nil];exact OO4.out,OU4.out,OE4.out,AP4.out,hx6⟩
          case round =>
           obtain⟨q,uo,hqd,rfl,rfl,OO5,OU5,OE5,AP5,hx7⟩:=hrel
           have hl5:(op.take d++List.replicate q at_).length=m+q:=by
            rw [List.length_append,List.length_take,List.length_replicate,←HLL.out,HMQ.out]
           obtain⟨xs5,hxs⟩ : ∃x,x=op.take d++List.replicate q at_:=⟨_,rfl⟩
           rw [←hxs]at hl5 OO5
           have HXS:=Lib.hid hxs
           clear hxs
           obtain⟨p5,c5,rfl,hp5⟩:=OO5.out.shapeL
           rw [hl5]at OO5 AP5 ⊢
           obtain⟨r,hr⟩ : ∃r,r=m+q:=⟨_,rfl⟩
           rw [←hr]at hl5 OO5 AP5 ⊢
           have HRR:=Lib.hid hr
           by_cases hg5:q<d - L
           ·have hgd5:decide ((r:Int)<(d:Int))=true:=by have:=HRR.out;have:=HMQ.out;simp;omega
            have hgd6:(r:Int)<(d:Int):=by have:=HRR.out;have:=HMQ.out;omega
            have hgd7:r<d:=by omega
            have HL5:=Lib.hid hl5
            have B1:xs5.length+1≤maxLen:=by have:=HRR.out;have:=HMQ.out;rw [hl5];unfold maxLen;omega
            have B2:(xs5.length+1)*8≤140737488355328:=by have:=HRR.out;have:=HMQ.out;rw [hl5];omega
            clear hl5 hp5 hr
            go_wp2_with (at_builtin;refine wpList_append_one Rep.int (fun _=>True) rfl _ _ 29 rfl w.heap.size 3 i2 _ 8 Tryz.underlying29 hi2 hz20 hz21 hz22 rfl (by decide) (.slice p5 r c5) _ rfl (OO5.out.ext ((Ext.refl wr).alloc _)) ⟨wr.heap.size,0,none⟩ 1 at_ [.int .i64 at_] rfl ⟨rfl,HOKP.out⟩ (by exact cells_new wr [.int .i64 at_] _) B1 B2 (by exact(hx7.alloc _).size) ?_)
            intro g8 cap8 w8 own8 gr8 hg8
            have X8:=Lib.hid (show Ext w w8 from Ext.grownNew (hx7.alloc _) gr8 OO5.out.base)
            have OU8:=Lib.hid (own_apart flat_per (OU5.out.ext ((Ext.refl wr).alloc _)) gr8 AP5.out.1.symm)
            have OE8:=Lib.hid (own_apart flat_evt (OE5.out.ext ((Ext.refl wr).alloc _)) gr8 AP5.out.2.1)
            have OO8:=Lib.hid (show OwnOf Rep.int w8 (fun _=>True) w.heap.size 3 (.slice (some ⟨g8,0,none⟩) (r+1) cap8) (op.take d++List.replicate (q+1) at_)from by
             rw [List.replicate_succ',←List.append_assoc,←HXS.out]
             rw [HL5.out]at own8
             exact own8)
            have AP8:=Lib.hid (show Apart (.slice (some ⟨g8,0,none⟩) (r+1) cap8) uv∧Apart (.slice (some ⟨ge,0,none⟩) n ce) (.slice (some ⟨g8,0,none⟩) (r+1) cap8)∧Apart (.slice (some ⟨ge,0,none⟩) n ce) uv from
             ⟨(AP5.out.1.symm.grow (fun x hx=>Nat.lt_succ_of_lt (OU5.out.lt x hx).2) hg8).symm,AP5.out.2.1.grow (fun x hx=>Nat.lt_succ_of_lt (OE5.out.lt x hx).2) hg8,AP5.out.2.2⟩)
            clear own8 gr8 hg8 OO5 OU5 OE5 AP5 hx7
            rw [HL5.out]
            go_wp2_with fail
            go_roundg (d - L - (q+1))
            case measure=>omega
            case rel=>exact⟨q+1,_,by omega,rfl,rfl,OO8.out,OU8.out,OE8.out,AP8.out,X8.out⟩
           ·have hqe:q=d - L:=by omega
            have hgd5:decide ((r:Int)<(d:Int))=false:=by have:=HRR.out;have:=HMQ.out;simp;omega
            have hgd6 : ¬(r:Int)<(d:Int):=by have:=HRR.out;have:=HMQ.out;omega
            have hgd7 : ¬r<d:=by omega
            have HS:=Lib.hid (show levOf (levPts ps) (levF ps) (k+1)=(op.take d++List.replicate q at_,ou++(op.drop d).reverse.map fun s=>⟨s,at_⟩)from by rw [HSTEP.out,hqe,HLL.out];rfl)
            clear hl5 hp5 hqe hr
            go_wp2_with fail
            go_roundg (K - (k+1))
            case measure=>omega
            case rel=>exact⟨k+1,_,_,by omega,rfl,by rw [HA1.out],rfl,rfl,by rw [HS.out];show OwnOf Rep.int _ _ _ _ _ (op.take d++List.replicate q at_);rw [←HXS.out];exact OO5.out,by rw [HS.out];exact OU5.out,OE5.out,AP5.out,by rw [HS.out];exact HUL5.out,hx7⟩
    ·have hkK:k=K:=by omega
     have hin:idxOf es (levPts ps) k=n:=by rw [hkK,HK.out,HEV.out.last,HNE.out]
     have hd2 : ¬(n:Int)<(n:Int):=by omega
     rw [hin]
     have HFIN:=Lib.hid (show OwnOf Rep.per wr (fun _=>True) w.heap.size 123 uu (levels ps)from by
      have h:=OU.out
      rw [hkK,HK.out]at h
      exact h)
     clear hkK hin
     go_wp2_with fail
     go_ret
     exact⟨uu,rfl,HFIN.out,hx5⟩
end Go.Proofs.YtombmdaohcjokaaGreatDoor
namespace Go.Proofs.YtombmdaohcjokaaGreatDoor
open Go.RowKit Go.Maps
open Classical
def keyL (r:Row):Lit:= .string (keyRow r)
theorem keyL_inj {a b:Row} (h:keyL a=keyL b):a=b:=keyRow_inj (Lit.string.inj h)
theorem keyL_lit (r:Row):WideAt.IsKeyLit (keyL r):=trivial
structure RawRow where
 p:Option Addr
 n:Nat
 c:Nat
 q:Option Addr
 m:Nat
 d:Nat
def mkRow (x:RawRow):Value:= .agg #[.slice x.p x.n x.c,.slice x.q x.m x.d]
def ShRow (v:Value):Prop:= ∃x,v=mkRow x
def ShSl (v:Value):Prop:= ∃p n c,v = .slice p n c
def RowV (w:World) (x:RawRow) (r:Row):Prop:=x.n=r.vals.length∧x.m=r.lin.length∧SliceOf Rep.val w.cell? (.slice x.p r.vals.length x.c) r.vals∧SliceOf Rep.int w.cell? (.slice x.q r.lin.length x.d) r.lin
structure NInv (w w':World) (base:Nat) (T:TypeId) (l:List Tup) (m1 m2:Lit→Option Value):Prop where
 k1 : ∀kl v,m1 kl=some v→ ∃t∈l,validT t=true∧kl=keyL (tupRow t)∧ ∃x,v=mkRow x∧RowV w x (tupRow t)
 k2 : ∀t∈l,validT t=true→(m1 (keyL (tupRow t))).isSome=true
 p1 : ∀kl v,m2 kl=some v→ ∃t∈l,validT t=true∧kl=keyL (tupRow t)∧OwnOf Rep.per w' (fun _=>True) base T v (persOf (tupRow t) l)
 p2 : ∀t∈l,validT t=true→(m2 (keyL (tupRow t))).isSome=true
 ap : ∀kl kl' v v',kl≠kl'→m2 kl=some v→m2 kl'=some v'→Apart v v'
theorem NInv.nil (w w':World) (base:Nat) (T:TypeId):NInv w w' base T [] (fun _=>none) (fun _=>none) :=
 ⟨fun _ _ h=>(by cases h),fun _ h=>(by cases h),fun _ _ h=>(by cases h),fun _ h=>(by cases h),fun _ _ _ _ _ h=>(by cases h)⟩
theorem NInv.keep {w w' w'':World} {base:Nat} {T:TypeId} {l:List Tup} {m1 m2:Lit→Option Value} (h:NInv w w' base T l m1 m2) {row:Option Nat} (gr:w'.grownBy w'' row) (hr : ∀k,row=some k→k<base∨w'.heap.size≤k):NInv w w'' base T l m1 m2 :=
 ⟨h.k1,h.k2,fun kl v hm=>by
  obtain⟨t,h1,h2,h3,h4⟩:=h.p1 kl v hm
  exact⟨t,h1,h2,h3,h4.chg flat_per (chg_grown gr) fun k hk hc=>by have:=h4.lt k hk;have:=hr k hc;omega⟩,h.p2,h.ap⟩
theorem NInv.keep2 {w w' w'':World} {base:Nat} {T:TypeId} {l:List Tup} {m1 m2:Lit→Option Value} (h:NInv w w' base T l m1 m2) {row:Option Nat} (gr:w'.grownBy w'' row) (hr : ∀kl v x,m2 kl=some v→v.ownBlock=some x→row≠some x):NInv w w'' base T l m1 m2 :=
 ⟨h.k1,h.k2,fun kl v hm=>by
  obtain⟨t,h1,h2,h3,h4⟩:=h.p1 kl v hm
  exact⟨t,h1,h2,h3,h4.chg flat_per (chg_grown gr) fun k hk hc=>hr kl v k hm hk hc⟩,h.p2,h.ap⟩
theorem NInv.below {w w':World} {base:Nat} {T:TypeId} {l:List Tup} {m1 m2:Lit→Option Value} (h:NInv w w' base T l m1 m2) : ∀kl v x,m2 kl=some v→v.ownBlock=some x→x<w'.heap.size:=fun kl v x hm hx=>by
 obtain⟨_,_,_,_,h4⟩:=h.p1 kl v hm
 exact(h4.lt x hx).2
theorem persOf_snoc_no (r:Row) (l:List Tup) (t:Tup) (h : ¬(validT t=true∧tupRow t=r)):persOf r (l ++ [t])=persOf r l:=by
 unfold persOf
 rw [List.filter_append,List.filter_append,List.map_append]
 have:List.filter (fun t=>decide (tupRow t=r)) (List.filter validT [t]) = []:=by
  rw [List.filter_eq_nil_iff]
  intro x hx
  obtain⟨h1,h2⟩:=List.mem_filter.1 hx
  rw [List.mem_singleton]at h1
  subst h1
  simp only [decide_eq_true_eq]
  exact fun e=>h ⟨h2,e⟩
 rw [this]
 simp
theorem persOf_snoc (l:List Tup) (t:Tup) (h:validT t=true):persOf (tupRow t) (l ++ [t])=persOf (tupRow t) l ++ [tupPer t]:=by
 unfold persOf
 rw [List.filter_append,List.filter_append,List.map_append]
 have h1:List.filter validT [t] = [t]:=by rw [List.filter_cons,if_pos h];rfl
 have h2:List.filter (fun x=>decide (tupRow x=tupRow t)) [t] = [t]:=by rw [List.filter_cons,if_pos (decide_eq_true rfl)];rfl
 rw [h1,h2]
 rfl
theorem NInv.skip {w w':World} {base:Nat} {T:TypeId} {l:List Tup} {m1 m2:Lit→Option Value} (h:NInv w w' base T l m1 m2) {t:Tup} (hv:validT t=false):NInv w w' base T (l ++ [t]) m1 m2 :=
 ⟨fun kl v hm=>by obtain⟨u,h1,h2⟩:=h.k1 kl v hm;exact⟨u,List.mem_append_left _ h1,h2⟩,
  fun u hu hvu=>by
   rcases List.mem_append.1 hu with hu | hu
   ·exact h.k2 u hu hvu
   ·rw [List.mem_singleton]at hu;subst hu;exact absurd hvu (by rw [hv];decide),
  fun kl v hm=>by
   obtain⟨u,h1,h2,h3,h4⟩:=h.p1 kl v hm
   exact⟨u,List.mem_append_left _ h1,h2,h3,by rw [persOf_snoc_no _ _ _ (fun e=>by rw [hv]at e;cases e.1)];exact h4⟩,
  fun u hu hvu=>by
   rcases List.mem_append.1 hu with hu | hu
   ·exact h.p2 u hu hvu
   ·rw [List.mem_singleton]at hu;subst hu;exact absurd hvu (by rw [hv];decide),h.ap⟩
theorem NInv.own {w w':World} {base:Nat} {T:TypeId} {l:List Tup} {m1 m2:Lit→Option Value} (h:NInv w w' base T l m1 m2) (r:Row):OwnOf Rep.per w' (fun _=>True) base T ((m2 (keyL r)).getD (.slice none 0 0)) (persOf r l):=by
 cases hm:m2 (keyL r)with
 |some v =>
  obtain⟨t,_,_,h3,h4⟩:=h.p1 _ v hm
  rw [keyL_inj h3]
  exact h4
 |none =>
  have:persOf r l = []:=by
   cases hp:persOf r l with
   |nil=>rfl
   |cons p ps =>
    have hmem:p∈persOf r l:=by rw [hp];simp
    unfold persOf at hmem
    obtain⟨t,ht,_⟩:=List.mem_map.1 hmem
    obtain⟨h1,h2⟩:=List.mem_filter.1 ht
    obtain⟨h3,h4⟩:=List.mem_filter.1 h1
    have h5:=h.p2 t h3 h4
    rw [of_decide_eq_true h2,hm]at h5
    cases h5
  rw [this]
  exact OwnOf.nil _ _ _ _ _
theorem NInv.apart {w w':World} {base:Nat} {T:TypeId} {l:List Tup} {m1 m2:Lit→Option Value} (h:NInv w w' base T l m1 m2) {r:Row} {kl:Lit} {v:Value} (hne:kl≠keyL r) (hm:m2 kl=some v):Apart v ((m2 (keyL r)).getD (.slice none 0 0)):=by
 cases hr:m2 (keyL r)with
 |some u=>exact h.ap kl _ v u hne hm hr
 |none=>exact fun k _ e=>by cases e
theorem NInv.step {w w' w'':World} {base:Nat} {T:TypeId} {l:List Tup} {m1 m2:Lit→Option Value} (h:NInv w w' base T l m1 m2) {t:Tup} (hv:validT t=true) {x:RawRow} (hx:RowV w x (tupRow t)) {g a b:Nat}
  (own:OwnOf Rep.per w'' (fun _=>True) base T (.slice (some ⟨g,0,none⟩) a b) (persOf (tupRow t) l ++ [tupPer t])) (gr:w'.grownBy w'' ((m2 (keyL (tupRow t))).getD (.slice none 0 0)).ownBlock)
  (hg:((m2 (keyL (tupRow t))).getD (.slice none 0 0)).ownBlock=some g∨g=w'.heap.size) :
  NInv w w'' base T (l ++ [t]) (putV m1 (keyL (tupRow t)) (mkRow x)) (putV m2 (keyL (tupRow t)) (.slice (some ⟨g,0,none⟩) a b)):=by
 refine⟨fun kl v hm=> ?_,fun u hu hvu=> ?_,fun kl v hm=> ?_,fun u hu hvu=> ?_,fun kl kl' v v' hne hm hm'=> ?_⟩
 ·by_cases e:kl=keyL (tupRow t)
  ·subst e
   rw [putV_same]at hm
   exact⟨t,by simp,hv,rfl,x,(Option.some.inj hm).symm,hx⟩
  ·rw [putV_other _ _ e]at hm
   obtain⟨u,h1,h2⟩:=h.k1 kl v hm
   exact⟨u,List.mem_append_left _ h1,h2⟩
 ·by_cases e:keyL (tupRow u)=keyL (tupRow t)
  ·rw [e,putV_same];rfl
  ·rw [putV_other _ _ e]
   rcases List.mem_append.1 hu with hu | hu
   ·exact h.k2 u hu hvu
   ·rw [List.mem_singleton]at hu;subst hu;exact absurd rfl e
 ·by_cases e:kl=keyL (tupRow t)
  ·subst e
   rw [putV_same]at hm
   exact⟨t,by simp,hv,rfl,by rw [persOf_snoc l t hv,←Option.some.inj hm];exact own⟩
  ·rw [putV_other _ _ e]at hm
   obtain⟨u,h1,h2,h3,h4⟩:=h.p1 kl v hm
   refine⟨u,List.mem_append_left _ h1,h2,h3,?_⟩
   rw [persOf_snoc_no _ _ _ (fun c=>e (by rw [h3,c.2]))]
   exact own_apart flat_per h4 gr (h.apart e hm)
 ·by_cases e:keyL (tupRow u)=keyL (tupRow t)
  ·rw [e,putV_same];rfl
  ·rw [putV_other _ _ e]
   rcases List.mem_append.1 hu with hu | hu
   ·exact h.p2 u hu hvu
   ·rw [List.mem_singleton]at hu;subst hu;exact absurd rfl e
 ·by_cases e:kl=keyL (tupRow t)
  ·by_cases e':kl'=keyL (tupRow t)
   ·exact absurd (e.trans e'.symm) hne
   ·subst e
    rw [putV_same]at hm
    rw [putV_other _ _ e']at hm'
    obtain⟨u,_,_,_,h4⟩:=h.p1 kl' v' hm'
    rw [←Option.some.inj hm]
    exact((h.apart e' hm').grow (fun k hk=>(h4.lt k hk).2) hg).symm
  ·rw [putV_other _ _ e]at hm
   obtain⟨u,_,_,_,h4⟩:=h.p1 kl v hm
   by_cases e':kl'=keyL (tupRow t)
   ·subst e'
    rw [putV_same]at hm'
    rw [←Option.some.inj hm']
    exact(h.apart e hm).grow (fun k hk=>(h4.lt k hk).2) hg
   ·rw [putV_other _ _ e']at hm'
    exact h.ap kl kl' v v' hne hm hm'
def DoneR (m1:Lit→Option Value) (left:Lit→Bool) (done:List Row):Prop:=done.Nodup∧ ∀r,r∈done↔(m1 (keyL r)).isSome=true∧left (keyL r)=false
theorem DoneR.start {m1:Lit→Option Value} {left:Lit→Bool} (h : ∀kl,WideAt.IsKeyLit kl→left kl=(m1 kl).isSome):DoneR m1 left [] :=
 ⟨List.nodup_nil,fun r=>⟨fun hr=>(by cases hr),fun⟨h1,h2⟩=>by rw [h _ (keyL_lit r),h1]at h2;cases h2⟩⟩
theorem DoneR.step {m1:Lit→Option Value} {left:Lit→Bool} {done:List Row} (h:DoneR m1 left done) {r:Row} (hm:(m1 (keyL r)).isSome=true) (hl:left (keyL r)=true):DoneR m1 (fun z=>left z && !z.sameKey (keyL r)) (done ++ [r]):=by
 have hn:r∉done:=fun hr=>by rw [((h.2 r).1 hr).2]at hl;cases hl
 refine⟨List.nodup_append.2 ⟨h.1,by simp,fun a ha b hb=> ?_⟩,fun s=> ?_⟩
 ·rw [List.mem_singleton]at hb
  subst hb
  exact fun e=>hn (e▸ha)
 ·rw [List.mem_append,List.mem_singleton,h.2 s]
  by_cases e:s=r
  ·subst e
   simp [hm,WideAt.sameKey_self (keyL_lit s)]
  ·have hk:(keyL s).sameKey (keyL r)=false:=by
    cases hs:(keyL s).sameKey (keyL r)
    ·rfl
    ·exact absurd (keyL_inj (WideAt.sameKey_eq hs)) e
   simp [hk,e]
theorem DoneR.all {w w':World} {base:Nat} {T:TypeId} {l:List Tup} {m1 m2:Lit→Option Value} {left:Lit→Bool} {done:List Row} (h:DoneR m1 left done) (hi:NInv w w' base T l m1 m2) (hl : ∀kl,left kl=false) : ∀r,r∈done↔ ∃t∈l,validT t=true∧tupRow t=r:=by
 intro r
 rw [h.2 r,hl]
 constructor
 ·rintro⟨h1,_⟩
  obtain⟨v,hv⟩:=Option.isSome_iff_exists.1 h1
  obtain⟨t,h2,h3,h4,_⟩:=hi.k1 _ v hv
  exact⟨t,h2,h3,(keyL_inj h4).symm⟩
 ·rintro⟨t,h1,h2,rfl⟩
  exact⟨hi.k2 t h1 h2,rfl⟩
end Go.Proofs.YtombmdaohcjokaaGreatDoor
namespace Go.Proofs.YtombmdaohcjokaaGreatDoor
open Go.RowKit
@[reducible] def perV (a b:Int):Value:= .agg #[.int .i64 a,.int .i64 b]
set_option maxHeartbeats 400000 in
theorem valid_any (a b:Int) (w:World) :
  Calls Tryz.prog 123 #[perV a b] w fun e w'=>e = .returned (.bool (validB a b))∧Ext w w':=by
 go_enter Tryz.func123,Tryz.ntmps123
 go_wp2
 all_goals
  go_ret
  refine⟨ret_bool ?_,(Below.refl _ _).alloc (Nat.le_refl _) _⟩
  simp [validB, *]
  try omega
def interB (a b c d:Int):Bool:=validB a b&&validB c d&&decide (max a c<min b d)
def interV (a b c d:Int):Value:=if interB a b c d=true then .tuple #[perV (max a c) (min b d),.bool true]else .tuple #[perV 0 0,.bool false]
theorem interV_no {a b c d:Int} (h:interB a b c d=false):interV a b c d = .tuple #[perV 0 0,.bool false]:=by unfold interV;rw [h];rfl
theorem interV_yes {a b c d x y:Int} (h:interB a b c d=true) (hx:x=max a c) (hy:y=min b d):interV a b c d = .tuple #[perV x y,.bool true]:=by subst hx hy;unfold interV;rw [h];rfl
set_option maxHeartbeats 1000000 in
theorem intersect_any (a b c d:Int) (w:World) :
  Calls Tryz.prog 124 #[perV a b,perV c d] w fun e w'=>e = .returned (interV a b c d)∧Ext w w':=by
 cases h1:validB a b with
 |false =>
  have hv:=interV_no (a:=a) (b:=b) (c:=c) (d:=d) (by simp [interB,h1])
  have H1:=Lib.hid h1
  have HV:=Lib.hid hv
  clear h1 hv
  go_enter Tryz.func124,Tryz.ntmps124
  go_wp2_with fail
  all_goals
   refine(valid_any _ _ _).mono ?_
   rintro e w1 ⟨rfl,hx1⟩
   rw [H1.out]
   have hz1:=hx1.size
   simp at hz1
   obtain⟨hc,hf⟩:=bcell (hx1.mono (B':=w.heap.size+4) (by simp))
   have hz2:w.heap.size+2<w1.heap.size:=by omega
   go_wp2_with fail
   exact bodyPost_ret (v:= .tuple #[perV 0 0,.bool false]) (by simp [results,Tryz.results124,go_sem,hc]) rfl ⟨by rw [HV.out],Below.setCell (Below.setCell (((((Ext.refl w).alloc _).alloc _).alloc _).alloc _ |>.trans hx1) (by simp;omega) _) (by simp;omega) _⟩
 |true =>
  cases h2:validB c d with
  |false =>
   have hv:=interV_no (a:=a) (b:=b) (c:=c) (d:=d) (by simp [interB,h2])
   have H1:=Lib.hid h1
   have H2:=Lib.hid h2
   have HV:=Lib.hid hv
   clear h1 h2 hv
   go_enter Tryz.func124,Tryz.ntmps124
   go_wp2_with fail
   all_goals
    refine(valid_any _ _ _).mono ?_
    rintro e w1 ⟨rfl,hx1⟩
    rw [H1.out]
    have hz1:=hx1.size
    simp at hz1
    obtain⟨hc,hf⟩:=bcell (hx1.mono (B':=w.heap.size+4) (by simp))
    go_wp2_with fail
    refine(valid_any _ _ _).mono ?_
    rintro e w2 ⟨rfl,hx2⟩
    rw [H2.out]
    have hz3:=hx2.size
    obtain⟨hc2,hf2⟩:=bcell (hx2.mono (B':=w.heap.size+4) (by omega))
    have hz2:w.heap.size+2<w2.heap.size:=by omega
    go_wp2_with fail
    exact bodyPost_ret (v:= .tuple #[perV 0 0,.bool false]) (by simp [results,Tryz.results124,go_sem,hc,hc2]) rfl ⟨by rw [HV.out],Below.setCell (Below.setCell ((((((Ext.refl w).alloc _).alloc _).alloc _).alloc _ |>.trans hx1).trans hx2) (by simp;omega) _) (by simp;omega) _⟩
  |true =>
   have hv:=fun(x y:Int) (hx:x=max a c) (hy:y=min b d) (h3:x<y)=>interV_yes (a:=a) (b:=b) (c:=c) (d:=d) (by simp only [interB,h1,h2,Bool.true_and,decide_eq_true_eq];omega) hx hy
   have hw:=fun h3 : ¬max a c<min b d=>interV_no (a:=a) (b:=b) (c:=c) (d:=d) (by simp [interB,h3])
   have H1:=Lib.hid h1
   have H2:=Lib.hid h2
   have HV:=Lib.hid hv
   have HW:=Lib.hid hw
   clear h1 h2 hv hw
   go_enter Tryz.func124,Tryz.ntmps124
   go_wp2_with fail
   all_goals
    refine(valid_any _ _ _).mono ?_
    rintro e w1 ⟨rfl,hx1⟩
    rw [H1.out]
    have hz1:=hx1.size
    simp at hz1
    obtain⟨hc,hf⟩:=bcell (hx1.mono (B':=w.heap.size+4) (by simp))
    go_wp2_with fail
    refine(valid_any _ _ _).mono ?_
    rintro e w2 ⟨rfl,hx2⟩
    rw [H2.out]
    have hz3:=hx2.size
    obtain⟨hc2,hf2⟩:=bcell (hx2.mono (B':=w.heap.size+4) (by omega))
    have hz2:w.heap.size+2<w2.heap.size:=by omega
    go_wp2_with fail
    ·exact bodyPost_ret (v:= .tuple #[perV 0 0,.bool false]) (by simp [results,Tryz.results124,go_sem,hc,hc2]) rfl ⟨by rw [HW.out (by omega)],Below.setCell (Below.setCell ((((((Ext.refl w).alloc _).alloc _).alloc _).alloc _ |>.trans hx1).trans hx2) (by simp;omega) _) (by simp;omega) _⟩
    ·have hb2 : ∀x y:Int,x=max a c→y=min b d→x<y→ .tuple #[perV x y,.bool true]=interV a b c d:=fun x y hx hy h=>(HV.out x y hx hy h).symm
     have HB:=Lib.hid hb2
     clear hb2
     first
      |exact bodyPost_ret (v:= .tuple #[perV (max a c) (min b d),.bool true]) (by simp [results,Tryz.results124,go_sem,hc,hc2]) rfl ⟨by rw [HB.out _ _ rfl rfl (by omega)],Below.setCell (Below.setCell ((((((Ext.refl w).alloc _).alloc _).alloc _).alloc _ |>.trans hx1).trans hx2) (by simp;omega) _) (by simp;omega) _⟩
      |exact bodyPost_ret (v:= .tuple #[perV a b,.bool true]) (by simp [results,Tryz.results124,go_sem,hc,hc2]) rfl ⟨by rw [HB.out _ _ (by omega) (by omega) (by omega)],Below.setCell (Below.setCell ((((((Ext.refl w).alloc _).alloc _).alloc _).alloc _ |>.trans hx1).trans hx2) (by simp;omega) _) (by simp;omega) _⟩
      |exact bodyPost_ret (v:= .tuple #[perV a d,.bool true]) (by simp [results,Tryz.results124,go_sem,hc,hc2]) rfl ⟨by rw [HB.out _ _ (by omega) (by omega) (by omega)],Below.setCell (Below.setCell ((((((Ext.refl w).alloc _).alloc _).alloc _).alloc _ |>.trans hx1).trans hx2) (by simp;omega) _) (by simp;omega) _⟩
      |exact bodyPost_ret (v:= .tuple #[perV c b,.bool true]) (by simp [results,Tryz.results124,go_sem,hc,hc2]) rfl ⟨by rw [HB.out _ _ (by omega) (by omega) (by omega)],Below.setCell (Below.setCell ((((((Ext.refl w).alloc _).alloc _).alloc _).alloc _ |>.trans hx1).trans hx2) (by simp;omega) _) (by simp;omega) _⟩
      |exact bodyPost_ret (v:= .tuple #[perV c d,.bool true]) (by simp [results,Tryz.results124,go_sem,hc,hc2]) rfl ⟨by rw [HB.out _ _ (by omega) (by omega) (by omega)],Below.setCell (Below.setCell ((((((Ext.refl w).alloc _).alloc _).alloc _).alloc _ |>.trans hx1).trans hx2) (by simp;omega) _) (by simp;omega) _⟩
end Go.Proofs.YtombmdaohcjokaaGreatDoor
namespace Go.Proofs.YtombmdaohcjokaaGreatDoor
open Go.RowKit
set_option maxHeartbeats 1000000 in
theorem includes_day (f t x:Int) (w:World) :
  Calls Tryz.prog 77 #[perV f t,.int .i64 x] w fun e w'=>e = .returned (.bool (validB f t&&decide (f≤x)&&decide (x<t)))∧Ext w w':=by
 go_enter Tryz.func77,Tryz.ntmps77
 go_wp2_with fail
 refine(valid_any f t _).mono ?_
 rintro e w1 ⟨rfl,x1⟩
 have d0:w1.cell? ⟨w.heap.size,0,none⟩=some (.int .i64 f):=x1.at (by go_simp)
 have d1:w1.cell? ⟨w.heap.size,1,none⟩=some (.int .i64 t):=x1.at (by go_simp)
 have X1:=Lib.hid (show Ext w w1 from ((Ext.refl w).alloc _).trans x1)
 have e1:=cell_lt d1
 clear x1
 cases hvb:validB f t with
 |false =>
  go_wp2_with fail
  go_ret
  exact⟨by rw [hvb];simp,X1.out⟩
 |true =>
  by_cases h1:f≤x
  ·have hd1:decide (f≤x)=true:=by simp [h1]
   by_cases h2:x<t
   ·have hd2:decide (x<t)=true:=by simp [h2]
    go_wp2_with fail
    go_ret
    exact⟨by rw [hvb];simp [h1,h2],X1.out⟩
   ·have hd2:decide (x<t)=false:=by simp [h2]
    go_wp2_with fail
    go_ret
    exact⟨by rw [hvb];simp [h1,h2],X1.out⟩
  ·have hd1:decide (f≤x)=false:=by simp [h1]
   go_wp2_with fail
   go_ret
   exact⟨by rw [hvb,hd1];simp,X1.out⟩
set_option maxHeartbeats 1000000 in
theorem tup_row (pa pb:Option Addr) (na ka nb kb:Nat) (f t:Int) (w:World) :
  Calls Tryz.prog 78 #[.agg #[.slice pa na ka,.int .i64 f,.int .i64 t,.slice pb nb kb]] w fun e w'=>e = .returned (.agg #[.slice pa na ka,.slice pb nb kb])∧Gro w w':=by
 go_enter Tryz.func78,Tryz.ntmps78
 go_wp2_with fail
 refine bodyPost_ret (v:= .agg #[.slice pa na ka,.slice pb nb kb]) (by simp [results,Tryz.results78,go_sem]) rfl ⟨rfl,((Gro.refl w).alloc _).alloc _⟩
def fitTs (l:List Tup):Prop:=l.length≤1048576∧ ∀t∈l,t.vals.length≤1048576∧t.lin.length≤1048576
theorem fit_slice {l:List Tup} (h:fitTs l) (x:Int):fitRows (sliceRows l x):=by
 refine⟨?_,fun r hr=> ?_⟩
 ·rw [sliceRows_len]
  exact Nat.le_trans (List.length_filter_le _ _) h.1
 ·unfold sliceRows at hr
  obtain⟨t,ht,rfl⟩:=List.mem_map.1 hr
  exact h.2 t (List.mem_filter.1 ht).1
set_option maxRecDepth 100000 in
set_option maxHeartbeats 4000000 in
theorem timeslice_gen (v:Value) (l:List Tup) (x:Int) (w:World) (hv:SliceOf Rep.tup w.cell? v l) (hnl:l.length≤1099511627776) (hf:fitRows (sliceRows l x)) :
  Calls Tryz.prog 41 #[v,.int .i64 x] w fun e w'=> ∃v',e = .returned v'∧SliceOf Rep.row (on w' (since w)) v' (sortBy cmpRow (sliceRows l x))∧Ext w w':=by
 obtain⟨i0,hi,hz0,hz1,hz2⟩:=info_parts infoRow
 obtain⟨p,cap,rfl,hc1,hc2,hp⟩:=hv.form
 obtain⟨N,hN⟩ : ∃N,N=l.length:=⟨_,rfl⟩
 have HV:=Lib.hid hv
 rw [←hN]
 have HN:=Lib.hid hN
 have HP:=Lib.hid hp
 have HF:=Lib.hid hf
 have hNl:N≤1099511627776:=by rw [hN];exact hnl
 clear hv hN hp hc1 hc2 hf hnl
 go_enter Tryz.func41,Tryz.ntmps41
 go_wp2_with fail
 go_loopg [5,10] N (fun gk vo vi wr=> ∃(k:Nat) (u:Value) (o:List Row),k≤N∧gk=N - k∧vi = .int .i64 k∧u=vo∧Hid (OwnOf Rep.row wr (fun k=>k<w.heap.size) w.heap.size 58 u o)∧Hid (o=sliceRows (l.take k) x)∧Ext w wr)
 case atStart=>exact⟨0,_,[],by omega,rfl,rfl,rfl,OwnOf.nil _ _ _ _ _,rfl,Ext.refl w⟩
 case round =>
  obtain⟨k,u,o,hk,rfl,rfl,rfl,OW,AS,hx⟩:=hrel
  by_cases hlt:k<N
  ·have hkl:k<l.length:=by have:=HN.out;omega
   obtain⟨b,o',rfl⟩:=HP.out (by decide) (by omega)
   have hv:=HV.out
   rw [←HN.out]at hv
   obtain⟨ta,tb,c0,c1,c2,c3,g0,g1,r1,r2⟩:=tup_at hv k hkl
   obtain⟨pa,ka,ta',_⟩:=g0.form
   obtain⟨pb,kb,tb',_⟩:=g1.form
   subst ta' tb'
   replace c0:=hx.at c0
   replace c1:=hx.at c1
   replace c2:=hx.at c2
   replace c3:=hx.at c3
   have hst:=slice_step l x k hkl
   have hol:o.length≤1099511627775:=by
    rw [AS.out,sliceRows_len]
    exact Nat.le_trans (List.length_filter_le _ _) (Nat.le_trans (List.length_take_le _ _) (by omega))
   rw [←AS.out]at hst
   unfold tupRow at hst
   generalize l[k]=y at c0 c1 c2 c3 g0 g1 r1 r2 hst
   obtain⟨vs,f,t,ln⟩:=y
   dsimp only at c0 c1 c2 c3 g0 g1 r1 r2 hst
   have HST:=Lib.hid hst
   have G0:=Lib.hid g0
   have G1:=Lib.hid g1
   have HOL:=Lib.hid hol
   have hd:decide ((k:Int)<(N:Int))=true:=by simp;omega
   have e0:=cell_lt c0
   clear hst g0 g1 r1 r2 hv hol
   go_wp2_with fail
   refine(includes_day f t x _).mono ?_
   rintro e w1 ⟨rfl,x1⟩
   have d0:w1.cell? ⟨wr.heap.size,0,none⟩=some (.slice pa vs.length ka):=x1.at (by go_simp)
   have d1:w1.cell? ⟨wr.heap.size,1,none⟩=some (.int .i64 f):=x1.at (by go_simp)
   have d2:w1.cell? ⟨wr.heap.size,2,none⟩=some (.int .i64 t):=x1.at (by go_simp)
   have d3:w1.cell? ⟨wr.heap.size,3,none⟩=some (.slice pb ln.length kb):=x1.at (by go_simp)
   have X1:=Lib.hid (show Ext wr w1 from ((Ext.refl wr).alloc _).trans x1)
   have e1:=cell_lt d0
   clear x1 c0 c1 c2 c3 e0
   cases hvb:(validB f t&&decide (f≤x)&&decide (x<t))with
   |true =>
    have HVB:=Lib.hid hvb
    clear hvb
    go_wp2_with fail
    refine(tup_row pa pb vs.length ka ln.length kb f t _).mono ?_
    rintro e w2 ⟨rfl,x2g⟩
    have x2:=x2g.ext
    clear x2g
    have XA:=Lib.hid (hx.trans ((X1.out.trans x2).alloc (.cells #[.slice pa vs.length ka,.slice pb ln.length kb] 58)))
    have OA:=Lib.hid (OW.out.ext ((X1.out.trans x2).alloc (.cells #[.slice pa vs.length ka,.slice pb ln.length kb] 58)))
    have B1:o.length+1≤maxLen:=by have:=HOL.out;unfold maxLen;omega
    have B2:(o.length+1)*48≤140737488355328:=by have:=HOL.out;omega
    clear x2
    go_wp2_with (at_builtin;refine wpList_append_one Rep.row (fun k=>k<w.heap.size) rfl _ _ 40 rfl w.heap.size 58 i0 _ 48 Tryz.underlying40 hi hz0 hz1 hz2 rfl (by decide) u o rfl (by exact OA.out) ⟨w2.heap.size,0,none⟩ 1 ⟨vs,ln⟩ [.slice pa vs.length ka,.slice pb ln.length kb] rfl (by
     have hs:Sub w.cell? (on (w2.alloc (.cells #[.slice pa vs.length ka,.slice pb ln.length kb] 58)) (avoid (fun k=>k<w.heap.size) u)):=(full_on w _ fun _ h=>h).trans (old_avoid XA.out OA.out)
     exact⟨_,_,rfl,G0.out.ext hs,G1.out.ext hs⟩) (by exact cells_new w2 [.slice pa vs.length ka,.slice pb ln.length kb] _) B1 B2 (by exact XA.out.size) ?_)
    intro g cap w3 own gr _
    have hxx:Ext w w3:=XA.out.grownNew gr OW.out.base
    have OW2:=Lib.hid own
    clear own gr d0 d1 d2 d3 e1
    go_wp2_with fail
    go_roundg (N - (k+1))
    case measure=>omega
    case rel=>exact⟨k+1,_,o ++ [(⟨vs,ln⟩:Row)],by omega,rfl,by go_num,rfl,OW2.out,by show _=_;rw [HST.out,if_pos HVB.out],hxx⟩
   |false =>
    have HVB:=Lib.hid hvb
    clear hvb
    go_wp2_with fail
    go_roundg (N - (k+1))
    case measure=>omega
    case rel=>exact⟨k+1,u,o,by omega,rfl,by go_num,rfl,OW.out.ext X1.out,by show _=_;rw [HST.out,HVB.out,if_neg (by decide),List.append_nil],hx.trans X1.out⟩
  ·have hkN:k=N:=by omega
   have hd : ¬(k:Int)<(N:Int):=by omega
   have HFS:=Lib.hid (show o=sliceRows l x from by
    have h:=AS.out
    rw [hkN,HN.out,List.take_length]at h
    exact h)
   have S5:=Lib.hid (show SliceOf Rep.row wr.cell? u (sliceRows l x)from by rw [←HFS.out];exact OW.out.slice)
   clear hkN
   go_wp2_with fail
   refine(sort_rows _ (sliceRows l x) _ S5.out HF.out).mono ?_
   rintro e w4 ⟨v4,rfl,s4,x4⟩
   have S4:=Lib.hid (s4.ext (on_mono w4 fun k _ hk=>Nat.le_trans hx.size hk))
   have X4:=Lib.hid (hx.trans x4)
   clear s4 x4
   go_wp2_with fail
   go_ret
   exact⟨_,rfl,S4.out,X4.out⟩
theorem timeslice_day (v:Value) (l:List Tup) (x:Int) (w:World) (hv:SliceOf Rep.tup w.cell? v l) (hf:fitTs l) :
  Calls Tryz.prog 41 #[v,.int .i64 x] w fun e w'=> ∃v',e = .returned v'∧SliceOf Rep.row (on w' (since w)) v' (sortBy cmpRow (sliceRows l x))∧Ext w w' :=
 timeslice_gen v l x w hv (by have:=hf.1;omega) (fit_slice hf x)
end Go.Proofs.YtombmdaohcjokaaGreatDoor
