/- joined texts of a proof: PlainL, PlainR, PlainN, PlainG, PlainK, MapV, PlainE, PerR, Chg, Cut, Step -/
import Derived.Test.YtkddkbpoefidpaaGreatDoorKG03
import Derived.Lib.ItoaNum
import Derived.Test.YtkddkbpoefidpaaGreatDoorKG01
import Derived.Maps.Own
import Derived.Maps.OwnOps
import Derived.Maps.RangeWalk
import Derived.Maps.Views
import Derived.Test.YtkddkbpoefidpaaGreatDoorKG02
import Derived.Deep.RegionLaw
namespace Go.Proofs.YtkddkbpoefidpaaGreatDoor
def perHas (t:Int) (p:Per):Bool:=decide (p.from_≤t)&&decide (t<p.to_)
def levStep (d:Nat) (x:Int) (q:List Int×List Per):List Int×List Per :=
 (q.1.take d++List.replicate (d - q.1.length) x,q.2++(q.1.drop d).reverse.map fun s=>⟨s,x⟩)
def levOf (P:List Int) (f:Nat→Nat):Nat→List Int×List Per
 |0=>([],[])
 |k+1=>levStep (f k) P[k]! (levOf P f k)
theorem levStep_len (d:Nat) (x:Int) (q:List Int×List Per):(levStep d x q).1.length=d:=by
 simp only [levStep,List.length_append,List.length_take,List.length_replicate]
 omega
def levCnt (t:Int) (q:List Int×List Per):Nat:=(q.2.filter (perHas t)).length+(q.1.filter fun s=>decide (s≤t)).length
theorem filter_all {α:Type} {p:α→Bool} {l:List α} (h : ∀x∈l,p x=true):l.filter p=l:=List.filter_eq_self.2 h
theorem levStep_cnt (d:Nat) (x t:Int) (q:List Int×List Per) (h1 : ∀s∈q.1,s<x) (h2 : ∀p∈q.2,p.to_≤x):levCnt t (levStep d x q)=if x≤t then d else levCnt t q:=by
 obtain⟨o,out⟩:=q
 simp only at h1 h2
 unfold levCnt levStep
 simp only
 by_cases h:x≤t
 ·rw [if_pos h]
  have e1:(out++(o.drop d).reverse.map fun s=>(⟨s,x⟩:Per)).filter (perHas t) = []:=by
   rw [List.filter_eq_nil_iff]
   intro p hp
   unfold perHas
   simp only [Bool.and_eq_true,decide_eq_true_eq]
   rcases List.mem_append.1 hp with hp | hp
   ·have:=h2 p hp;omega
   ·obtain⟨s,_,rfl⟩:=List.mem_map.1 hp
    simp only
    omega
  have e2:(o.take d++List.replicate (d - o.length) x).filter (fun s=>decide (s≤t))=o.take d++List.replicate (d - o.length) x:=filter_all fun s hs=>by
   rw [decide_eq_true_eq]
   rcases List.mem_append.1 hs with hs | hs
   ·have:=h1 s (List.mem_of_mem_take hs);omega
   ·rw [List.eq_of_mem_replicate hs];exact h
  rw [e1,e2]
  simp only [List.length_nil,List.length_append,List.length_take,List.length_replicate]
  omega
 ·rw [if_neg h]
  have e0:(List.replicate (d - o.length) x).filter (fun s=>decide (s≤t)) = []:=by
   rw [List.filter_eq_nil_iff]
   intro s hs
   rw [List.eq_of_mem_replicate hs,decide_eq_true_eq]
   exact h
  have e1:(((o.drop d).reverse.map fun s=>(⟨s,x⟩:Per)).filter (perHas t)).length=((o.drop d).filter fun s=>decide (s≤t)).length:=by
   rw [List.filter_map,List.length_map,List.filter_reverse,List.length_reverse]
   congr 2
   funext s
   simp only [Function.comp,perHas]
   rw [show decide (t<x)=true by rw [decide_eq_true_eq];omega,Bool.and_true]
  have e2:(o.filter fun s=>decide (s≤t)).length=((o.take d).filter fun s=>decide (s≤t)).length+((o.drop d).filter fun s=>decide (s≤t)).length:=by
   rw [←List.length_append,←List.filter_append,List.take_append_drop]
  rw [List.filter_append,List.filter_append,List.length_append,List.length_append,e0,e1,e2]
  simp only [List.length_nil]
  omega
def gAt (P:List Int) (f:Nat→Nat):Nat→Int→Nat
 |0,_=>0
 |k+1,t=>if P[k]! ≤t then f k else gAt P f k t
theorem levOf_law {P:List Int} (hP:P.Pairwise (· < ·)) (f:Nat→Nat) (k:Nat) (hk:k≤P.length) :
  (∀t,levCnt t (levOf P f k)=gAt P f k t)∧(∀s∈(levOf P f k).1,s∈P∧(k<P.length→s<P[k]!))∧(∀p∈(levOf P f k).2,p.from_∈P∧p.to_∈P∧p.from_<p.to_∧(k<P.length→p.to_<P[k]!))∧(0<k→(levOf P f k).1.length=f (k - 1)):=by
 induction k with
 |zero=>exact⟨fun t=>rfl,fun s hs=>(by cases hs),fun p hp=>(by cases hp),fun h=>by omega⟩
 |succ k ih =>
  obtain⟨h1,h2,h3,_⟩:=ih (by omega)
  have hkm:P[k]! ∈P:=by rw [getElem!_pos P k (by omega)];exact List.getElem_mem _
  have hup : ∀z,z<P[k]! ∨z=P[k]! →k+1<P.length→z<P[k+1]! := fun z hz h=>by
   have:=asc_at hP (show k<k+1 by omega) h
   omega
  refine⟨fun t=> ?_,fun s hs=> ?_,fun p hp=> ?_,fun _=>levStep_len _ _ _⟩
  ·show levCnt t (levStep (f k) P[k]! (levOf P f k))=if P[k]! ≤t then f k else gAt P f k t
   rw [levStep_cnt _ _ _ _ (fun s hs=>(h2 s hs).2 (by omega)) fun p hp=>by have:=(h3 p hp).2.2.2 (by omega);omega,h1 t]
  ·have hs':s∈(levOf P f k).1.take (f k)++List.replicate (f k - (levOf P f k).1.length) P[k]! := hs
   rcases List.mem_append.1 hs' with hs | hs
   ·have:=h2 s (List.mem_of_mem_take hs)
    exact⟨this.1,hup s (.inl (this.2 (by omega)))⟩
   ·rw [List.eq_of_mem_replicate hs]
    exact⟨hkm,hup _ (.inr rfl)⟩
  ·have hp':p∈(levOf P f k).2++((levOf P f k).1.drop (f k)).reverse.map fun s=>(⟨s,P[k]!⟩:Per):=hp
   rcases List.mem_append.1 hp' with hp | hp
   ·obtain⟨g1,g2,g3,g4⟩:=h3 p hp
    exact⟨g1,g2,g3,hup _ (.inl (g4 (by omega)))⟩
   ·obtain⟨s,hs,rfl⟩:=List.mem_map.1 hp
    have:=h2 s (List.mem_of_mem_drop (List.mem_reverse.1 hs))
    exact⟨this.1,hkm,this.2 (by omega),hup _ (.inr rfl)⟩
def perT (p:Per):Tup:=⟨[],p.from_,p.to_,[]⟩
def levPts (ps:List Per):List Int:=pts (ps.map perT)
def levF (ps:List Per) (i:Nat):Nat:=cntAt (ps.map perT) (levPts ps)[i]!
def levels (ps:List Per):List Per:=(levOf (levPts ps) (levF ps) (levPts ps).length).2
theorem levels_law (ps:List Per) (t:Int):((levels ps).filter (perHas t)).length=cntAt (ps.map perT) t:=by
 obtain⟨p1,p2,_⟩:=pts_law (ps.map perT)
 have hb : ∀x∈bnd (ps.map perT),x∈levPts ps:=fun x hx=>(p2 x).2 hx
 have hlow : ∀k,k<(levPts ps).length→t<(levPts ps)[k]! →gAt (levPts ps) (levF ps) k t=cntAt (ps.map perT) t:=by
  intro k
  induction k with
  |zero=>intro _ h;exact(cnt_out p1 _ hb (.inl h)).symm
  |succ k ih =>
   intro hk h
   unfold gAt
   by_cases c:(levPts ps)[k]! ≤t
   ·rw [if_pos c]
    exact cnt_between p1 hk c h _ hb
   ·rw [if_neg c]
    exact ih (by omega) (by omega)
 obtain⟨h1,_,_,h4⟩:=levOf_law p1 (levF ps) (levPts ps).length (Nat.le_refl _)
 have hall:gAt (levPts ps) (levF ps) (levPts ps).length t=cntAt (ps.map perT) t∧(levOf (levPts ps) (levF ps) (levPts ps).length).1 = []:=by
  rcases Nat.eq_zero_or_pos (levPts ps).length with h0 | h0
  ·rw [h0]
   have hnil:levPts ps = []:=List.length_eq_zero_iff.1 h0
   refine⟨?_,rfl⟩
   show 0=_
   unfold cntAt
   symm
   rw [List.length_eq_zero_iff,List.filter_eq_nil_iff]
   intro x hx hc
   unfold holdsAt at hc
   simp only [Bool.and_eq_true,decide_eq_true_eq]at hc
   have hv:validT x=true:=hc.1.1
   have:x.from_∈levPts ps:=hb _ (by
    unfold bnd
    refine List.mem_flatMap.2 ⟨x,hx,?_⟩
    rw [hv,if_pos rfl]
    simp)
   rw [hnil]at this
   cases this
  ·obtain⟨n,hn⟩ : ∃n,(levPts ps).length=n+1:=⟨(levPts ps).length - 1,by omega⟩
   have hend:levF ps n=0:=by
    unfold levF
    exact cnt_out p1 _ hb (.inr (by show (levPts ps)[(levPts ps).length - 1]! ≤_;rw [hn];exact Int.le_refl _))
   have hlen:=h4 h0
   rw [hn]at hlen ⊢
   simp only [Nat.add_sub_cancel]at hlen
   rw [hend]at hlen
   refine⟨?_,List.length_eq_zero_iff.1 hlen⟩
   unfold gAt
   by_cases c:(levPts ps)[n]! ≤t
   ·rw [if_pos c,hend]
    exact(cnt_out p1 _ hb (.inr (by show (levPts ps)[(levPts ps).length - 1]! ≤_;rw [hn];exact c))).symm
   ·rw [if_neg c]
    exact hlow n (by omega) (by omega)
 have h:levCnt t (levOf (levPts ps) (levF ps) (levPts ps).length)=gAt (levPts ps) (levF ps) (levPts ps).length t:=h1 t
 rw [hall.1]at h
 unfold levCnt at h
 rw [hall.2]at h
 exact h
theorem levels_ends (ps:List Per) : ∀p∈levels ps,p.from_∈levPts ps∧p.to_∈levPts ps∧p.from_<p.to_:=fun p hp=>by
 obtain⟨p1,_,_⟩:=pts_law (ps.map perT)
 obtain⟨_,_,h3,_⟩:=levOf_law p1 (levF ps) (levPts ps).length (Nat.le_refl _)
 exact⟨(h3 p hp).1,(h3 p hp).2.1,(h3 p hp).2.2.1⟩
end Go.Proofs.YtkddkbpoefidpaaGreatDoor
namespace Go.Proofs.YtkddkbpoefidpaaGreatDoor
open Go.RowKit
def tupRow (t:Tup):Row:=⟨t.vals,t.lin⟩
def sliceRows (l:List Tup) (x:Int):List Row:=(l.filter (holdsAt x)).map tupRow
theorem slice_step (l:List Tup) (x:Int) (k:Nat) (h:k<l.length):sliceRows (l.take (k+1)) x=sliceRows (l.take k) x++if (validB l[k].from_ l[k].to_&&decide (l[k].from_≤x)&&decide (x<l[k].to_))=true then [tupRow l[k]]else []:=by
 rw [List.take_succ_eq_append_getElem h]
 unfold sliceRows
 rw [List.filter_append,List.map_append]
 congr 1
 rw [List.filter_cons,List.filter_nil]
 show List.map tupRow (if holdsAt x l[k]=true then [l[k]]else [])=_
 rw [show holdsAt x l[k]=(validB l[k].from_ l[k].to_&&decide (l[k].from_≤x)&&decide (x<l[k].to_))from rfl]
 split <;> rfl
theorem sliceRows_len (l:List Tup) (x:Int):(sliceRows l x).length=cntAt l x:=by unfold sliceRows cntAt;rw [List.length_map]
end Go.Proofs.YtkddkbpoefidpaaGreatDoor
namespace Go.Proofs.YtkddkbpoefidpaaGreatDoor
open Go.RowKit
def tupOf (r:Row) (p:Per):Tup:=⟨r.vals,p.from_,p.to_,r.lin⟩
def cmpTup (a b:Tup):Int:=orI [cmpRow (tupRow a) (tupRow b),cmpI a.from_ b.from_,cmpI a.to_ b.to_]
theorem cmpTup_eq (a b:Tup):cmpTup a b=if cmpRow (tupRow a) (tupRow b)=0 then(if cmpI a.from_ b.from_=0 then cmpI a.to_ b.to_ else cmpI a.from_ b.from_)else cmpRow (tupRow a) (tupRow b):=by
 unfold cmpTup orI orI orI orI
 by_cases h1:cmpRow (tupRow a) (tupRow b)=0 <;> by_cases h2:cmpI a.from_ b.from_=0 <;> by_cases h3:cmpI a.to_ b.to_=0 <;> simp [h1,h2,h3]
theorem flat_congr {α β:Type} {f g:α→List β} {l:List α} (h : ∀x∈l,f x=g x):l.flatMap f=l.flatMap g:=by
 induction l with
 |nil=>rfl
 |cons x l ih=>rw [List.flatMap_cons,List.flatMap_cons,h x (by simp),ih fun y hy=>h y (by simp [hy])]
theorem ord_tup:Ord3 cmpTup:=by
 have h:Ord3 fun x y:Row×Int×Int=>if cmpRow x.1 y.1=0 then(if cmpI x.2.1 y.2.1=0 then cmpI x.2.2 y.2.2 else cmpI x.2.1 y.2.1)else cmpRow x.1 y.1 :=
  ord_then ord_row ord_I2 Prod.fst Prod.snd fun _ _ h1 h2=>Prod.ext h1 h2
 have h2:=ord_pull h (fun t:Tup=>(tupRow t,t.from_,t.to_)) fun x y e=>by
  obtain⟨_,_,_,_⟩:=x
  obtain⟨_,_,_,_⟩:=y
  simp only [tupRow,Prod.mk.injEq,Row.mk.injEq]at e
  simp [e]
 have e:cmpTup=fun x y:Tup=>if cmpRow (tupRow x) (tupRow y)=0 then(if cmpI x.from_ y.from_=0 then cmpI x.to_ y.to_ else cmpI x.from_ y.from_)else cmpRow (tupRow x) (tupRow y):=by
  funext a b
  exact cmpTup_eq a b
 rw [e]
 exact h2
section
open Classical
noncomputable def once {α:Type}:List α→List α
 |[]=> []
 |x::l=>if x∈l then once l else x::once l
theorem mem_once {α:Type} {x:α} {l:List α}:x∈once l↔x∈l:=by
 induction l with
 |nil=>rfl
 |cons y l ih =>
  unfold once
  split
  ·rename_i h
   rw [ih,List.mem_cons]
   exact⟨.inr,fun hx=>by rcases hx with rfl | hx;exact h;exact hx⟩
  ·rw [List.mem_cons,List.mem_cons,ih]
theorem once_nodup {α:Type} (l:List α):(once l).Nodup:=by
 induction l with
 |nil=>exact List.nodup_nil
 |cons y l ih =>
  unfold once
  split
  ·exact ih
  ·rename_i h
   exact List.nodup_cons.2 ⟨fun hx=>h (mem_once.1 hx),ih⟩
theorem group_perm {α β:Type} (f:α→β) : ∀(ks:List β) (l:List α),ks.Nodup→(∀x∈l,f x∈ks)→(ks.flatMap fun k=>l.filter fun x=>decide (f x=k)).Perm l:=by
 intro ks
 induction ks with
 |nil =>
  intro l _ h
  cases l with
  |nil=>exact .refl _
  |cons x l=>exact absurd (h x (by simp)) (by simp)
 |cons k ks ih =>
  intro l hn h
  obtain⟨h1,h2⟩:=List.nodup_cons.1 hn
  rw [List.flatMap_cons]
  have e:(ks.flatMap fun k'=>l.filter fun x=>decide (f x=k'))=ks.flatMap fun k'=>(l.filter fun x=> !decide (f x=k)).filter fun x=>decide (f x=k'):=by
   refine flat_congr fun k' hk'=> ?_
   rw [List.filter_filter]
   refine List.filter_congr fun x _=> ?_
   by_cases c:f x=k'
   ·have : ¬f x=k:=fun c2=>h1 (by rw [←c2,c];exact hk')
    simp [c]
    rw [←c];exact this
   ·simp [c]
  rw [e]
  refine((ih _ h2 fun x hx=> ?_).append_left _).trans (List.filter_append_perm _ l)
  obtain⟨g1,g2⟩:=List.mem_filter.1 hx
  rcases List.mem_cons.1 (h x g1)with c | c
  ·simp [c]at g2
  ·exact c
noncomputable def persOf (r:Row) (l:List Tup):List Per:=((l.filter validT).filter fun t=>decide (tupRow t=r)).map tupPer
noncomputable def rowsOf (l:List Tup):List Row:=once ((l.filter validT).map tupRow)
noncomputable def normRaw (ks:List Row) (l:List Tup):List Tup:=ks.flatMap fun r=>(levels (persOf r l)).map (tupOf r)
noncomputable def normT (l:List Tup):List Tup:=sortBy cmpTup (normRaw (rowsOf l) l)
theorem normT_of {l:List Tup} {ks:List Row} (hn:ks.Nodup) (hk : ∀r,r∈ks↔ ∃t∈l,validT t=true∧tupRow t=r) {out:List Tup} (ho:out.Perm (normRaw ks l)):sortBy cmpTup out=normT l:=by
 refine sortBy_unique ord_tup ?_ (sortBy_pair ord_tup _)
 refine(sortBy_perm _ _).trans (ho.trans ?_)
 unfold normRaw
 refine List.Perm.flatMap_right _ ((List.perm_ext_iff_of_nodup hn (once_nodup _)).2 fun r=> ?_)
 rw [hk r,mem_once,List.mem_map]
 constructor
 ·rintro⟨t,h1,h2,h3⟩;exact⟨t,List.mem_filter.2 ⟨h1,h2⟩,h3⟩
 ·rintro⟨t,h1,h3⟩;exact⟨t,(List.mem_filter.1 h1).1,(List.mem_filter.1 h1).2,h3⟩
theorem levels_valid {ps:List Per} (h : ∀p∈ps,validB p.from_ p.to_=true) : ∀p∈levels ps,validB p.from_ p.to_=true:=by
 intro p hp
 obtain⟨h1,h2,h3⟩:=levels_ends ps p hp
 obtain⟨_,p2,_⟩:=pts_law (ps.map perT)
 have key : ∀x,x∈levPts ps→0≤x∧x≤1099511627776:=fun x hx=>by
  have hx:=(p2 x).1 hx
  unfold bnd at hx
  obtain⟨t,ht,hx⟩:=List.mem_flatMap.1 hx
  obtain⟨q,hq,rfl⟩:=List.mem_map.1 ht
  have hv:=validB_lt (h q hq)
  split at hx
  ·simp [perT]at hx;omega
  ·cases hx
 have k1:=key _ h1
 have k2:=key _ h2
 unfold validB
 simp only [Bool.and_eq_true,decide_eq_true_eq]
 omega
theorem persOf_valid (r:Row) (l:List Tup) : ∀p∈persOf r l,validB p.from_ p.to_=true:=by
 intro p hp
 unfold persOf at hp
 obtain⟨t,ht,rfl⟩:=List.mem_map.1 hp
 exact(List.mem_filter.1 (List.mem_filter.1 ht).1).2
theorem norm_row (r:Row) (l:List Tup) (t:Int):sliceRows ((levels (persOf r l)).map (tupOf r)) t=List.replicate ((l.filter (holdsAt t)).filter fun x=>decide (tupRow x=r)).length r:=by
 have e1:((levels (persOf r l)).map (tupOf r)).filter (holdsAt t)=((levels (persOf r l)).filter (perHas t)).map (tupOf r):=by
  rw [List.filter_map]
  congr 1
  refine List.filter_congr fun p hp=> ?_
  have hv:=levels_valid (persOf_valid r l) p hp
  simp only [Function.comp,holdsAt,validT,tupOf,perHas]
  rw [hv,Bool.true_and]
  rfl
 have e2:cntAt ((persOf r l).map perT) t=((l.filter (holdsAt t)).filter fun x=>decide (tupRow x=r)).length:=by
  unfold cntAt persOf
  rw [List.filter_map,List.length_map,List.filter_map,List.length_map,List.filter_filter,List.filter_filter,List.filter_filter]
  congr 2
  funext x
  simp only [Function.comp,perT,tupPer,holdsAt,validT]
  cases validB x.from_ x.to_ <;> simp [Bool.and_comm] <;> rfl
 unfold sliceRows
 rw [e1,List.map_map]
 have e3:(tupRow∘tupOf r)=fun _=>r:=rfl
 rw [e3,List.map_const',levels_law,e2]
theorem slice_flat (ks:List Row) (G:Row→List Tup) (t:Int):sliceRows (ks.flatMap G) t=ks.flatMap fun r=>sliceRows (G r) t:=by
 induction ks with
 |nil=>rfl
 |cons k ks ih =>
  rw [List.flatMap_cons,List.flatMap_cons,←ih]
  unfold sliceRows
  rw [List.filter_append,List.map_append]
theorem normT_rows (l:List Tup) (t:Int):(sliceRows (normT l) t).Perm (sliceRows l t):=by
 have h1:(sliceRows (normT l) t).Perm (sliceRows (normRaw (rowsOf l) l) t):=((sortBy_perm _ _).filter _).map _
 refine h1.trans ?_
 unfold normRaw
 rw [slice_flat]
 have h2:=(group_perm tupRow (rowsOf l) (l.filter (holdsAt t)) (once_nodup _) fun x hx=>mem_once.2 (List.mem_map.2 ⟨x,List.mem_filter.2 ⟨(List.mem_filter.1 hx).1,by
  have:=(List.mem_filter.1 hx).2
  unfold holdsAt at this
  simp only [Bool.and_eq_true]at this
  exact this.1.1⟩,rfl⟩)).map tupRow
 refine List.Perm.trans ?_ h2
 rw [List.map_flatMap]
 refine List.Perm.of_eq (flat_congr fun r _=> ?_)
 rw [norm_row]
 symm
 rw [List.eq_replicate_iff]
 refine⟨List.length_map _,fun x hx=> ?_⟩
 obtain⟨y,hy,rfl⟩:=List.mem_map.1 hx
 simpa using (List.mem_filter.1 hy).2
end
end Go.Proofs.YtkddkbpoefidpaaGreatDoor
namespace Go.Proofs.YtkddkbpoefidpaaGreatDoor
open Go.RowKit
def clip1 (t:Tup):Option Tup:=if validT t=true∧max t.from_ 0<min t.to_ 1000000 then some ⟨t.vals,max t.from_ 0,min t.to_ 1000000,t.lin⟩else none
def clipT (l:List Tup):List Tup:=l.filterMap clip1
theorem clip_mem {l:List Tup} {t:Tup} (h:t∈clipT l):validT t=true∧0≤t.from_∧t.to_≤1000000:=by
 obtain⟨u,_,hu⟩:=List.mem_filterMap.1 h
 unfold clip1 at hu
 split at hu
 ·rename_i c
  cases hu
  refine⟨?_,by simp only;omega,by simp only;omega⟩
  unfold validT validB
  simp only [Bool.and_eq_true,decide_eq_true_eq]
  omega
 ·cases hu
def gRow (aggV:List (List Val)→List Val) (kv:List Val) (ms:List Tup) (t:Int):Row:=⟨kv++aggV ((ms.filter (holdsAt t)).map Tup.vals),mergeL ((ms.filter (holdsAt t)).flatMap Tup.lin) []⟩
def dayT:Tup:=⟨[],0,1000000,[]⟩
def gPts (always:Bool) (ms:List Tup):List Int:=if always=true then pts (dayT::ms)else pts ms
def gHas (always:Bool) (ms:List Tup) (t:Int):Bool:=always||ms.any (holdsAt t)
def gUpto (aggV:List (List Val)→List Val) (always:Bool) (P:List Int) (kv:List Val) (ms:List Tup):Nat→List Tup
 |0=> []
 |k+1=>gUpto aggV always P kv ms k++if gHas always ms P[k]! = true then [tupOf (gRow aggV kv ms P[k]!) ⟨P[k]!,P[k+1]!⟩]else []
def gOut (aggV:List (List Val)→List Val) (always:Bool) (kv:List Val) (ms:List Tup):List Tup:=gUpto aggV always (gPts always ms) kv ms ((gPts always ms).length - 1)
theorem sliceRows_append (a b:List Tup) (t:Int):sliceRows (a++b) t=sliceRows a t++sliceRows b t:=by
 unfold sliceRows
 rw [List.filter_append,List.map_append]
theorem filter_between {P:List Int} (hP:P.Pairwise (· < ·)) {i:Nat} (hi:i+1<P.length) {t:Int} (h1:P[i]! ≤t) (h2:t<P[i+1]!) (l:List Tup) (hb : ∀x∈bnd l,x∈P):l.filter (holdsAt P[i]!)=l.filter (holdsAt t):=List.filter_congr (hold_between hP hi h1 h2 l hb)
theorem gUpto_at (aggV:List (List Val)→List Val) (always:Bool) {P:List Int} (hP:P.Pairwise (· < ·)) (hv : ∀x∈P,0≤x∧x≤1099511627776) (kv:List Val) (ms:List Tup) (hb : ∀x∈bnd ms,x∈P) (t:Int) (k:Nat) (hk:k<P.length) :
  sliceRows (gUpto aggV always P kv ms k) t=if P[0]! ≤t∧t<P[k]! ∧gHas always ms t=true then [gRow aggV kv ms t]else []:=by
 induction k with
 |zero=>rw [if_neg (by omega)];rfl
 |succ k ih =>
  have hlt:=asc_at hP (show k<k+1 by omega) hk
  have h0k:P[0]! ≤P[k]! := by
   rcases Nat.eq_zero_or_pos k with e | e
   ·subst e;exact Int.le_refl _
   ·have:=asc_at hP e (by omega);omega
  have hm : ∀i,i<P.length→0≤P[i]! ∧P[i]! ≤1099511627776:=fun i hi=>hv _ (by rw [getElem!_pos P i hi];exact List.getElem_mem _)
  have hvk:validB P[k]! P[k+1]! = true:=by
   have a1:=hm k (by omega)
   have a2:=hm (k+1) hk
   unfold validB
   simp only [Bool.and_eq_true,decide_eq_true_eq]
   omega
  have hone : ∀r:Row,sliceRows [tupOf r ⟨P[k]!,P[k+1]!⟩] t=if P[k]! ≤t∧t<P[k+1]! then [r]else []:=fun r=>by
   unfold sliceRows
   rw [List.filter_cons,List.filter_nil]
   have e:holdsAt t (tupOf r ⟨P[k]!,P[k+1]!⟩)=(decide (P[k]! ≤t)&&decide (t<P[k+1]!)):=by
    unfold holdsAt validT tupOf
    simp only
    rw [hvk,Bool.true_and]
   rw [e]
   by_cases c:P[k]! ≤t∧t<P[k+1]!
   ·rw [if_pos c,if_pos (by rw [Bool.and_eq_true,decide_eq_true_eq,decide_eq_true_eq];exact c)]
    rfl
   ·rw [if_neg c,if_neg (by simp only [Bool.and_eq_true,decide_eq_true_eq];exact c)]
    rfl
  unfold gUpto
  rw [sliceRows_append,ih (by omega)]
  by_cases c:P[k]! ≤t∧t<P[k+1]!
  ·have e1:gHas always ms P[k]! = gHas always ms t:=by
    unfold gHas
    congr 1
    rw [Bool.eq_iff_iff,List.any_eq_true,List.any_eq_true]
    constructor
    ·rintro⟨x,hx,h⟩;exact⟨x,hx,by rw [←hold_between hP hk c.1 c.2 ms hb x hx];exact h⟩
    ·rintro⟨x,hx,h⟩;exact⟨x,hx,by rw [hold_between hP hk c.1 c.2 ms hb x hx];exact h⟩
   have e2:gRow aggV kv ms P[k]! = gRow aggV kv ms t:=by
    unfold gRow
    rw [filter_between hP hk c.1 c.2 ms hb]
   rw [if_neg (by omega),List.nil_append,e1,e2]
   by_cases g:gHas always ms t=true
   ·rw [if_pos g,if_pos ⟨by omega,c.2,g⟩,hone,if_pos c]
   ·rw [if_neg g,if_neg fun h=>g h.2.2];rfl
  ·have e1:sliceRows (if gHas always ms P[k]! = true then [tupOf (gRow aggV kv ms P[k]!) ⟨P[k]!,P[k+1]!⟩]else []) t = []:=by
    split
    ·rw [hone,if_neg c]
    ·rfl
   rw [e1,List.append_nil]
   have e2:(P[0]! ≤t∧t<P[k]! ∧gHas always ms t=true)↔(P[0]! ≤t∧t<P[k+1]! ∧gHas always ms t=true):=by
    constructor
    ·rintro⟨a,b,g⟩;exact⟨a,by omega,g⟩
    ·rintro⟨a,b,g⟩;exact⟨a,by omega,g⟩
   simp only [e2]
theorem bnd_rng (l:List Tup) : ∀x∈bnd l,0≤x∧x≤1099511627776:=by
 intro x hx
 unfold bnd at hx
 obtain⟨t,ht,hx⟩:=List.mem_flatMap.1 hx
 split at hx
 ·rename_i hv
  have:=validB_lt hv
  simp at hx
  omega
 ·cases hx
theorem gOut_at (aggV:List (List Val)→List Val) (always:Bool) (kv:List Val) (ms:List Tup) (hm : ∀m∈ms,validT m=true∧0≤m.from_∧m.to_≤1000000) (t:Int) :
  sliceRows (gOut aggV always kv ms) t=if (always=true∧0≤t∧t<1000000)∨(always=false∧ms.any (holdsAt t)=true)then [gRow aggV kv ms t]else []:=by
 cases always with
 |true =>
  obtain⟨p1,p2,_⟩:=pts_law (dayT::ms)
  have hb : ∀x∈bnd ms,x∈pts (dayT::ms):=fun x hx=>(p2 x).2 (by unfold bnd at hx ⊢;rw [List.flatMap_cons];exact List.mem_append_right _ hx)
  have hbd:bnd (dayT::ms) = [0,1000000]++bnd ms:=by unfold bnd;rw [List.flatMap_cons];rfl
  have h0:(0:Int)∈pts (dayT::ms):=(p2 0).2 (by rw [hbd];simp)
  have hF:(1000000:Int)∈pts (dayT::ms):=(p2 _).2 (by rw [hbd];simp)
  have hall : ∀x∈pts (dayT::ms),0≤x∧x≤1000000:=fun x hx=>by
   have hx:=(p2 x).1 hx
   rw [hbd]at hx
   rcases List.mem_append.1 hx with hx | hx
   ·simp at hx;omega
   ·unfold bnd at hx
    obtain⟨m,hmm,hx⟩:=List.mem_flatMap.1 hx
    have:=hm m hmm
    rw [this.1,if_pos rfl]at hx
    have:=validB_lt this.1
    simp at hx
    omega
  have hl:0<(pts (dayT::ms)).length:=List.length_pos_of_mem h0
  have f0:(pts (dayT::ms))[0]! = 0:=by
   have a:=first_le p1 h0
   have b:=hall (pts (dayT::ms))[0]! (by rw [getElem!_pos _ 0 hl];exact List.getElem_mem _)
   omega
  have fF:(pts (dayT::ms))[(pts (dayT::ms)).length - 1]! = 1000000:=by
   have a:=le_last p1 hF
   have b:=hall (pts (dayT::ms))[(pts (dayT::ms)).length - 1]! (by rw [getElem!_pos _ _ (by omega)];exact List.getElem_mem _)
   omega
  show sliceRows (gUpto aggV true (pts (dayT::ms)) kv ms ((pts (dayT::ms)).length - 1)) t=_
  rw [gUpto_at aggV true p1 (fun x hx=>by have:=hall x hx;omega) kv ms hb t _ (by omega),f0,fF]
  simp [gHas]
 |false =>
  obtain⟨p1,p2,_⟩:=pts_law ms
  have hb : ∀x∈bnd ms,x∈pts ms:=fun x hx=>(p2 x).2 hx
  show sliceRows (gUpto aggV false (pts ms) kv ms ((pts ms).length - 1)) t=_
  by_cases h0:0<(pts ms).length
  ·rw [gUpto_at aggV false p1 (fun x hx=>bnd_rng ms x ((p2 x).1 hx)) kv ms hb t _ (by omega)]
   by_cases g:ms.any (holdsAt t)=true
   ·have hc:(pts ms)[0]! ≤t∧t<(pts ms)[(pts ms).length - 1]! := by
     obtain⟨x,hx,hh⟩:=List.any_eq_true.1 g
     unfold holdsAt at hh
     simp only [Bool.and_eq_true,decide_eq_true_eq]at hh
     have hmem : ∀z,z=x.from_∨z=x.to_→z∈pts ms:=fun z hz=>hb z (by
      unfold bnd
      refine List.mem_flatMap.2 ⟨x,hx,?_⟩
      rw [hh.1.1,if_pos rfl]
      rcases hz with rfl | rfl <;> simp)
     have a:=first_le p1 (hmem _ (.inl rfl))
     have b:=le_last p1 (hmem _ (.inr rfl))
     omega
    rw [if_pos ⟨hc.1,hc.2,by simp [gHas,g]⟩,if_pos (.inr ⟨rfl,g⟩)]
   ·rw [if_neg (by rintro⟨_,_,h⟩;simp [gHas]at h;exact g (by simpa using h)),if_neg (by rintro(h | h);exact absurd h.1 (by decide);exact g h.2)]
  ·have e:(pts ms).length - 1=0:=by omega
   have hnil:pts ms = []:=List.length_eq_zero_iff.1 (by omega)
   rw [e]
   rw [if_neg]
   ·rfl
   ·rintro(h | h)
    ·exact absurd h.1 (by decide)
    ·obtain⟨x,hx,hh⟩:=List.any_eq_true.1 h.2
     unfold holdsAt at hh
     simp only [Bool.and_eq_true]at hh
     have:=hb x.from_ (by
      unfold bnd
      refine List.mem_flatMap.2 ⟨x,hx,?_⟩
      rw [hh.1.1,if_pos rfl]
      simp)
     rw [hnil]at this
     cases this
section
open Classical
variable (proj:List Val→List Val) (aggV:List (List Val)→List Val) (always:Bool)
noncomputable def gMem (l:List Tup) (kv:List Val):List Tup:=(clipT l).filter fun t=>decide (proj t.vals=kv)
noncomputable def gKeys (l:List Tup):List (List Val):=if always=true then [[]]else once ((clipT l).map fun t=>proj t.vals)
noncomputable def aggRaw (l:List Tup):List Tup:=(gKeys proj always l).flatMap fun kv=>gOut aggV always kv (gMem proj l kv)
noncomputable def aggT (l:List Tup):List Tup:=normT (aggRaw proj aggV always l)
theorem normT_perm {a b:List Tup} (h:a.Perm b):normT a=normT b:=by
 have hr : ∀r,r∈rowsOf a↔ ∃t∈b,validT t=true∧tupRow t=r:=fun r=>by
  unfold rowsOf
  rw [mem_once,List.mem_map]
  constructor
  ·rintro⟨t,h1,h3⟩;exact⟨t,h.mem_iff.1 (List.mem_filter.1 h1).1,(List.mem_filter.1 h1).2,h3⟩
  ·rintro⟨t,h1,h2,h3⟩;exact⟨t,List.mem_filter.2 ⟨h.mem_iff.2 h1,h2⟩,h3⟩
 refine normT_of (once_nodup _) hr ?_
 unfold normRaw
 refine List.Perm.of_eq (flat_congr fun r _=> ?_)
 have hp:(persOf r a).Perm (persOf r b):=((h.filter _).filter _).map _
 have hpt:pts ((persOf r a).map perT)=pts ((persOf r b).map perT):=by
  have hm:(bnd ((persOf r a).map perT)).Perm (bnd ((persOf r b).map perT)):=(hp.map _).flatMap_right _
  obtain⟨a1,a2,_⟩:=pts_law ((persOf r a).map perT)
  obtain⟨b1,b2,_⟩:=pts_law ((persOf r b).map perT)
  exact List.Perm.eq_of_pairwise (le:=(· < ·)) (fun x y _ _ h1 h2=>by omega) a1 b1 ((List.perm_ext_iff_of_nodup (a1.imp fun h=>by omega) (b1.imp fun h=>by omega)).2 fun x=>by rw [a2,b2,hm.mem_iff])
 have hf:levF (persOf r a)=levF (persOf r b):=by
  funext i
  unfold levF levPts cntAt
  rw [hpt]
  exact((hp.map _).filter _).length_eq
 unfold levels
 rw [hf]
 unfold levPts
 rw [hpt]
end
end Go.Proofs.YtkddkbpoefidpaaGreatDoor
namespace Go.Proofs.YtkddkbpoefidpaaGreatDoor
open Go.Lib
def numCh (c:UInt8):Bool:=decide (c=45)||(decide (48≤c.toNat)&&decide (c.toNat≤57))
theorem digit_ch {d:Nat} (h:d<10):(UInt8.ofNat (48+d)).toNat=48+d:=by
 simp only [UInt8.toNat_ofNat']
 omega
theorem digits_ch (u:Nat) : ∀c∈decDigits u,48≤c.toNat∧c.toNat≤57:=by
 induction u using decDigits.induct with
 |case1 u h =>
  rw [decDigits,dif_pos h]
  intro c hc
  rw [List.mem_singleton]at hc
  subst hc
  rw [digit_ch h]
  omega
 |case2 u h ih =>
  rw [decDigits,dif_neg h]
  intro c hc
  rcases List.mem_append.1 hc with hc | hc
  ·exact ih c hc
  ·rw [List.mem_singleton]at hc
   subst hc
   rw [digit_ch (by omega)]
   omega
def readDec (l:List UInt8):Nat:=l.foldl (fun v c=>v*10+(c.toNat - 48)) 0
theorem readDec_digits (u:Nat):readDec (decDigits u)=u:=by
 induction u using decDigits.induct with
 |case1 u h =>
  rw [decDigits,dif_pos h]
  show 0*10+((UInt8.ofNat (48+u)).toNat - 48)=u
  rw [digit_ch h]
  omega
 |case2 u h ih =>
  rw [decDigits,dif_neg h]
  unfold readDec at ih ⊢
  rw [List.foldl_append,ih]
  show u / 10*10+((UInt8.ofNat (48+u % 10)).toNat - 48)=u
  rw [digit_ch (by omega)]
  omega
theorem digits_inj {u v:Nat} (h:decDigits u=decDigits v):u=v:=by rw [←readDec_digits u,h,readDec_digits]
theorem minus_digits {u v:Nat} (h:45::decDigits u=decDigits v):False:=by
 have:=digits_ch v 45 (by rw [←h];simp)
 have e:(45:UInt8).toNat=45:=rfl
 omega
theorem itoa_inj {a b:Int} (h:itoa a=itoa b):a=b:=by
 unfold itoa at h
 split at h <;> split at h
 ·injection h with _ h
  have:=digits_inj h
  omega
 ·exact(minus_digits h).elim
 ·exact(minus_digits h.symm).elim
 ·have:=digits_inj h
  omega
theorem itoa_ch (n:Int) : ∀c∈itoa n,numCh c=true:=by
 have key : ∀u,∀c∈decDigits u,numCh c=true:=fun u c hc=>by
  have:=digits_ch u c hc
  unfold numCh
  simp [this.1,this.2]
 unfold itoa
 split
 ·intro c hc
  rcases List.mem_cons.1 hc with rfl | hc
  ·rfl
  ·exact key _ c hc
 ·exact key _
def Over (x:List UInt8):Prop:= ∀c r,x=c::r→numCh c=false
theorem Over.nil:Over []:=fun c r h=>by cases h
theorem Over.cons {c:UInt8} {r:List UInt8} (h:numCh c=false):Over (c::r):=fun c' r' e=>by cases e;exact h
theorem take_num (n:Int) {x:List UInt8} (hx:Over x):(itoa n++x).takeWhile numCh=itoa n∧(itoa n++x).dropWhile numCh=x:=by
 rw [List.takeWhile_append_of_pos (itoa_ch n),List.dropWhile_append_of_pos (itoa_ch n)]
 cases x with
 |nil=>simp
 |cons c r=>rw [List.takeWhile_cons_of_neg (by rw [hx c r rfl];decide),List.dropWhile_cons_of_neg (by rw [hx c r rfl];decide)];simp
theorem split_num {a b:Int} {x y:List UInt8} (hx:Over x) (hy:Over y) (h:itoa a++x=itoa b++y):a=b∧x=y:=by
 obtain⟨h1,h2⟩:=take_num a hx
 obtain⟨h3,h4⟩:=take_num b hy
 rw [h]at h1 h2
 exact⟨itoa_inj (h1.symm.trans h3),h2.symm.trans h4⟩
def keyVal (v:Val):List UInt8:=itoa v.kind++44::(itoa v.n++44::(itoa v.s.size++58::v.s.data.toList))
def keyVals (vs:List Val):List UInt8:=vs.flatMap keyVal
def keyLin (l:List Int):List UInt8:=l.flatMap fun id=>44::itoa id
def keyRow (r:Row):List UInt8:=itoa r.vals.length++59::(keyVals r.vals++keyLin r.lin)
theorem keyVal_inj {v u:Val} {x y:List UInt8} (h:keyVal v++x=keyVal u++y):v=u∧x=y:=by
 unfold keyVal at h
 simp only [List.append_assoc,List.cons_append]at h
 obtain⟨h1,h⟩:=split_num (Over.cons (by decide)) (Over.cons (by decide)) h
 injection h with _ h
 obtain⟨h2,h⟩:=split_num (Over.cons (by decide)) (Over.cons (by decide)) h
 injection h with _ h
 obtain⟨h3,h⟩:=split_num (Over.cons (by decide)) (Over.cons (by decide)) h
 injection h with _ h
 have hl:v.s.data.toList.length=u.s.data.toList.length:=by
  have e1:v.s.data.toList.length=v.s.size:=Array.length_toList
  have e2:u.s.data.toList.length=u.s.size:=Array.length_toList
  omega
 obtain⟨h4,h5⟩:=List.append_inj h hl
 obtain⟨k1,n1,⟨⟨s1⟩⟩⟩:=v
 obtain⟨k2,n2,⟨⟨s2⟩⟩⟩:=u
 simp only at h1 h2 h4
 subst h1 h2 h4
 exact⟨rfl,h5⟩
theorem keyVals_inj : ∀ {vs us:List Val} {x y:List UInt8},vs.length=us.length→keyVals vs++x=keyVals us++y→vs=us∧x=y:=by
 intro vs
 induction vs with
 |nil =>
  intro us x y hl h
  cases us with
  |nil=>exact⟨rfl,h⟩
  |cons u us=>cases hl
 |cons v vs ih =>
  intro us x y hl h
  cases us with
  |nil=>cases hl
  |cons u us =>
   unfold keyVals at h ih
   rw [List.flatMap_cons,List.flatMap_cons,List.append_assoc,List.append_assoc]at h
   obtain⟨h1,h2⟩:=keyVal_inj h
   obtain⟨h3,h4⟩:=ih (by simpa using hl) h2
   exact⟨by rw [h1,h3],h4⟩
theorem keyLin_over (l:List Int):Over (keyLin l):=by
 cases l with
 |nil=>exact Over.nil
 |cons x l=>exact Over.cons (by decide)
theorem keyLin_inj : ∀ {l k:List Int},keyLin l=keyLin k→l=k:=by
 intro l
 induction l with
 |nil =>
  intro k h
  cases k with
  |nil=>rfl
  |cons x k=>unfold keyLin at h;rw [List.flatMap_cons]at h;cases h
 |cons x l ih =>
  intro k h
  cases k with
  |nil=>unfold keyLin at h;rw [List.flatMap_cons]at h;cases h
  |cons y k =>
   unfold keyLin at h
   rw [List.flatMap_cons,List.flatMap_cons,List.cons_append,List.cons_append]at h
   injection h with _ h
   obtain⟨h1,h2⟩:=split_num (keyLin_over l) (keyLin_over k) h
   rw [h1,ih h2]
theorem keyRow_inj {a b:Row} (h:keyRow a=keyRow b):a=b:=by
 unfold keyRow at h
 obtain⟨h1,h⟩:=split_num (Over.cons (by decide)) (Over.cons (by decide)) h
 injection h with _ h
 obtain⟨h2,h3⟩:=keyVals_inj (by omega) h
 obtain⟨v1,l1⟩:=a
 obtain⟨v2,l2⟩:=b
 simp only at h2 h3
 rw [h2,keyLin_inj h3]
end Go.Proofs.YtkddkbpoefidpaaGreatDoor
namespace Go.Proofs.YtkddkbpoefidpaaGreatDoor
open Go.RowKit Go.Maps
open Classical in
noncomputable def rawR (S:Value→Prop) (v:Value):Option (DataW Value×List MemPlace):=if S v then some (.held v,[])else none
theorem rawR_mk {S:Value→Prop} {v:Value} (h:S v):rawR S v=some (.held v,[]):=by unfold rawR;rw [if_pos h]
theorem rawR_inv {S:Value→Prop} {v:Value} {y:DataW Value×List MemPlace} (h:rawR S v=some y):S v∧y=(.held v,[]):=by
 unfold rawR at h
 split at h
 ·rename_i hs
  exact⟨hs,(Option.some.inj h).symm⟩
 ·cases h
def readV (o:Option Value) (z:DataW Value):DataW Value:=match o with | some v=> .held v | none=>z
def Reads (D:DataW Value) (m:Lit→Option Value):Prop:=IsMap D∧ ∀kl,WideAt.IsKeyLit kl→ ∀z,D.atKey kl z=readV (m kl) z
theorem Reads.empty:Reads (.map []) fun _=>none:=⟨isMap_empty,fun _ _ _=>rfl⟩
open Classical in
noncomputable def putV (m:Lit→Option Value) (kl:Lit) (v:Value):Lit→Option Value:=fun z=>if z=kl then some v else m z
theorem putV_same (m:Lit→Option Value) (kl:Lit) (v:Value):putV m kl v kl=some v:=if_pos rfl
theorem putV_other (m:Lit→Option Value) {kl z:Lit} (v:Value) (h:z≠kl):putV m kl v z=m z:=if_neg h
theorem Reads.put {D:DataW Value} {m:Lit→Option Value} (h:Reads D m) {kl:Lit} (hk:WideAt.IsKeyLit kl) (v:Value):Reads (D.put kl (.held v)) (putV m kl v):=by
 refine⟨h.1.put _ _,fun z hz zd=> ?_⟩
 by_cases e:z=kl
 ·subst e
  rw [atKey_put_same h.1 hk,putV_same]
  rfl
 ·rw [atKey_put_other e,putV_other m v e]
  exact h.2 z hz zd
theorem Reads.has {D:DataW Value} {m:Lit→Option Value} (h:Reads D m) {kl:Lit} (hk:WideAt.IsKeyLit kl):Maps.has D kl=(m kl).isSome:=by
 cases hm:m kl with
 |none=>exact has_false_of_atKey fun z=>by rw [h.2 kl hk z,hm];rfl
 |some v=>exact has_true_of_atKey (y:= .held v) fun z=>by rw [h.2 kl hk z,hm];rfl
def MapV (w:World) (P:Program) (k:TypeId) (S:Value→Prop) (b n:Nat) (m:Lit→Option Value):Prop:= ∃D,w.ownsMap P k (rawR S) b n D∧Reads D m
theorem MapV.made (w:World) (P:Program) (k:TypeId) (S:Value→Prop):MapV (w.alloc (.map #[] 0)) P k S w.heap.size 0 fun _=>none:=⟨_,World.ownsMap_made w P k _,Reads.empty⟩
theorem MapV.kept {w w':World} {P:Program} {k:TypeId} {S:Value→Prop} {b n:Nat} {m:Lit→Option Value} {row:Option Nat} (h:MapV w P k S b n m) (hg:w.grownBy w' row) (hne:some b≠row):MapV w' P k S b n m:=by
 obtain⟨D,h1,h2⟩:=h
 exact⟨D,h1.kept hg hne,h2⟩
theorem MapV.alloc {w:World} {P:Program} {k:TypeId} {S:Value→Prop} {b n:Nat} {m:Lit→Option Value} (h:MapV w P k S b n m) (o:Obj):MapV (w.alloc o) P k S b n m:=by
 obtain⟨D,h1,h2⟩:=h
 exact⟨D,h1.alloc o,h2⟩
theorem MapV.mono {w:World} {P:Program} {k:TypeId} {S:Value→Prop} {b n n':Nat} {m:Lit→Option Value} (h:MapV w P k S b n m) (hn:n≤n'):MapV w P k S b n' m:=by
 obtain⟨D,h1,h2⟩:=h
 exact⟨D,h1.mono hn,h2⟩
theorem wpList_lookup_v {P:Program} (w:World) {ops:Array Oper} {rest:List Oper} {o:Oper} {a:Act} {Q:Exit→Act→World→Prop}
  (hg:o.guard=none) (m x:Operand) (t:TypeId) (hop:o.op=Op.lookup t m x false)
  (k e:TypeId) (K:Go.Maps.Keyed P k) (ht:P.underlying t=some (.map k e)) (z:Value) (hz:(zeroValue e).run P w = .ok z w) (S:Value→Prop) (hS:S z) (b n:Nat) (mp:Lit→Option Value)
  (hm:a.eval m = .map (some b)) (hown:MapV w P k S b n mp) (key:Value) (kl:Lit) (hx:a.eval x=key) (hkey:keyOf P k key=some kl)
  (hK : ∀v,Hid (v=(mp kl).getD z)→S v→wpList P ops Q rest (a.put o.dst v) w) :
  wpList P ops Q (o::rest) a w:=by
 refine wpList_plain hg fun K' hK'=> ?_
 obtain⟨D,h1,h2⟩:=hown
 obtain⟨v,ps,hrun,hat⟩:=h1.lookup K ht hz (rawR_mk hS) hkey
 obtain⟨hs,hv⟩:=rawR_inv hat
 have hvv:v=(mp kl).getD z:=by
  have h3:=h2.2 kl (K.key hkey) (.held z)
  rw [(Prod.mk.inj hv).1]at h3
  cases hmk:mp kl with
  |none=>rw [hmk]at h3;injection h3
  |some u=>rw [hmk]at h3;injection h3
 unfold Oper.wp
 simp [execOp,hop,hm,hx,hrun,Result.andThen]
 exact hK' _ _ (hK v (Lib.hid hvv) hs)
theorem wpList_store_v {P:Program} (w:World) {ops:Array Oper} {rest:List Oper} {o:Oper} {a:Act} {Q:Exit→Act→World→Prop}
  (hg:o.guard=none) (m x v:Operand) (t:TypeId) (hop:o.op=Op.mapUpdate t m x v)
  (k e:TypeId) (K:Go.Maps.Keyed P k) (ht:P.underlying t=some (.map k e)) (S:Value→Prop) (b n:Nat) (mp:Lit→Option Value)
  (hm:a.eval m = .map (some b)) (hown:MapV w P k S b n mp) (hn:n<maxLen) (key val:Value) (kl:Lit) (hx:a.eval x=key) (hv:a.eval v=val) (hkey:keyOf P k key=some kl) (hval:S val)
  (hK : ∀w',MapV w' P k S b (n+1) (putV mp kl val)→w.grownBy w' (some b)→wpList P ops Q rest (a.put o.dst undef) w') :
  wpList P ops Q (o::rest) a w:=by
 obtain⟨D,h1,h2⟩:=hown
 exact wpList_mapUpdate_own w hg m x v t hop k e K ht (rawR S) b n D hm h1 hn key val kl hx hv hkey (.held val) [] (rawR_mk hval) fun w' h3 h4=>hK w' ⟨_,h3,h2.put (K.key hkey) val⟩ h4
def RangeV (w:World) (P:Program) (k:TypeId) (S:Value→Prop) (b r n:Nat) (m:Lit→Option Value) (left:Lit→Bool) (cnt:Nat):Prop:= ∃D,w.ranges P k (rawR S) b r n D left cnt∧Reads D m
theorem RangeV.kept {w w':World} {P:Program} {k:TypeId} {S:Value→Prop} {b r n:Nat} {m:Lit→Option Value} {left:Lit→Bool} {cnt:Nat} {row:Option Nat} (h:RangeV w P k S b r n m left cnt) (hg:w.grownBy w' row) (hb:some b≠row) (hr:some r≠row):RangeV w' P k S b r n m left cnt:=by
 obtain⟨D,h1,h2⟩:=h
 exact⟨D,h1.kept hg hb hr,h2⟩
theorem wpList_range_v {P:Program} (w:World) {ops:Array Oper} {rest:List Oper} {o:Oper} {a:Act} {Q:Exit→Act→World→Prop}
  (hg:o.guard=none) (m:Operand) (t:TypeId) (hop:o.op=Op.range t m) (k e:TypeId) (K:Go.Maps.Keyed P k) (ht:P.underlying t=some (.map k e)) (S:Value→Prop) (b n:Nat) (mp:Lit→Option Value)
  (hm:a.eval m = .map (some b)) (hown:MapV w P k S b n mp)
  (hK : ∀w' left cnt,RangeV w' P k S b w.heap.size n mp left cnt→(∀kl,WideAt.IsKeyLit kl→left kl=(mp kl).isSome)→cnt≤n→w.grownBy w' none→w'.heap.size=w.heap.size+1→wpList P ops Q rest (a.put o.dst (.pointer (some ⟨w.heap.size,0,none⟩))) w') :
  wpList P ops Q (o::rest) a w:=by
 obtain⟨D,h1,h2⟩:=hown
 exact wpList_range_own w hg m t hop k e K ht (rawR S) b n D hm h1 fun w' h3 h4 h5=>hK w' _ _ ⟨D,h3,h2⟩ (fun kl hk=>h2.has hk) h1.size_le h4 h5
theorem wpList_next_v {β:Type} {P:Program} (w:World) {ops:Array Oper} {rest:List Oper} {o:Oper} {a:Act} {Q:Exit→Act→World→Prop}
  (hg:o.guard=none) (it:Operand) (hop:o.op=Op.next it false) (k:TypeId) (hk:P.underlying k=some .string) (K:Go.Maps.Keyed P k) (S:Value→Prop) (mkV:β→Value) (invV : ∀v,S v→ ∃c,v=mkV c)
  (b r n:Nat) (mp:Lit→Option Value) (left:Lit→Bool) (cnt:Nat) (hit:a.eval it = .pointer (some ⟨r,0,none⟩)) (h:RangeV w P k S b r n mp left cnt)
  (hDone:cnt=0→(∀kl,left kl=false)→wpList P ops Q rest (a.put o.dst (.tuple #[.bool false])) w)
  (hMore : ∀(x:ByteArray) (c:β) (w':World) (cnt':Nat),keyOf P k (.string x)=some (.string x.data.toList)→left (.string x.data.toList)=true→mp (.string x.data.toList)=some (mkV c)→S (mkV c)→RangeV w' P k S b r n mp (fun z=>left z && !z.sameKey (.string x.data.toList)) cnt'→cnt'<cnt →
   w.grownBy w' (some r)→w'.heap.size=w.heap.size→(Instr.entry (.pointer (some ⟨r,0,none⟩))).run P w' = .ok (.tuple #[.string x,mkV c]) w'→wpList P ops Q rest (a.put o.dst (.tuple #[.bool true,.string x,mkV c])) w') :
  wpList P ops Q (o::rest) a w:=by
 obtain⟨D,h1,h2⟩:=h
 refine wpList_next_ranges w hg it hop k K (rawR S) Value.string mkV (fun key kl hkey=> ?_) (fun v y hv=>invV v (rawR_inv hv).1) b r n D left cnt hit h1 hDone ?_
 ·rw [keyOf_string hk]at hkey
  unfold mapKey at hkey
  rw [hk]at hkey
  cases key <;> simp at hkey
  exact⟨_,rfl⟩
 ·intro x c kl y w' cnt' hkey hlk hv hat hrg hlt hgr hsz hen
  have hkl:kl = .string x.data.toList:=by
   rw [keyOf_string hk]at hkey
   unfold mapKey at hkey
   rw [hk]at hkey
   simp at hkey
   exact hkey.2.symm
  subst hkl
  obtain⟨hs,rfl⟩:=rawR_inv hv
  refine hMore x c w' cnt' hkey hlk ?_ hs ⟨D,hrg,h2⟩ hlt hgr hsz hen
  have h3:=h2.2 _ (K.key hkey) (.held undef)
  have h4:=h2.2 _ (K.key hkey) .nil
  rw [hat]at h3 h4
  cases hm:mp (.string x.data.toList)with
  |none=>rw [hm]at h4;cases h4
  |some u=>rw [hm]at h4;injection h4 with h4;rw [h4]
end Go.Proofs.YtkddkbpoefidpaaGreatDoor
namespace Go.Proofs.YtkddkbpoefidpaaGreatDoor
open Go.RowKit
structure Evt where
 at_:Int
 d:Int
def evtsOf (ps:List Per):List Evt:=ps.flatMap fun p=> [⟨p.from_,1⟩,⟨p.to_,-1⟩]
def dsum:List Evt→Int
 |[]=>0
 |e::l=>e.d+dsum l
theorem dsum_append (a b:List Evt):dsum (a++b)=dsum a+dsum b:=by
 induction a with
 |nil=>simp [dsum]
 |cons x a ih=>rw [List.cons_append,dsum,dsum,ih];omega
theorem dsum_perm {a b:List Evt} (h:a.Perm b):dsum a=dsum b:=by
 induction h with
 |nil=>rfl
 |cons x _ ih=>rw [dsum,dsum,ih]
 |swap x y l=>simp only [dsum];omega
 |trans _ _ ih1 ih2=>rw [ih1,ih2]
theorem evts_len (ps:List Per):(evtsOf ps).length=2*ps.length:=by
 induction ps with
 |nil=>rfl
 |cons p ps ih =>
  have h:evtsOf (p::ps) = [⟨p.from_,1⟩,⟨p.to_,-1⟩]++evtsOf ps:=rfl
  rw [h,List.length_append,ih,List.length_cons]
  simp only [List.length_cons,List.length_nil]
  omega
def upto (es:List Evt) (x:Int):Nat:=es.countP fun e=>decide (e.at_≤x)
theorem upto_take {es:List Evt} (hs:es.Pairwise fun a b=>a.at_≤b.at_) (x:Int):es.take (upto es x)=es.filter fun e=>decide (e.at_≤x):=by
 unfold upto
 induction es with
 |nil=>rfl
 |cons e es ih =>
  obtain⟨h1,h2⟩:=List.pairwise_cons.1 hs
  by_cases c:e.at_≤x
  ·rw [List.countP_cons_of_pos (by simpa using c),List.take_succ_cons,List.filter_cons_of_pos (by simpa using c),ih h2]
  ·have h0:es.countP (fun e=>decide (e.at_≤x))=0:=List.countP_eq_zero.2 fun y hy=>by have:=h1 y hy;simp;omega
   rw [List.countP_cons_of_neg (by simpa using c),h0,List.take_zero,List.filter_cons_of_neg (by simpa using c)]
   symm
   rw [List.filter_eq_nil_iff]
   intro y hy
   have:=h1 y hy
   simp;omega
theorem upto_iff {es:List Evt} (hs:es.Pairwise fun a b=>a.at_≤b.at_) (x:Int) (j:Nat) (hj:j<es.length):j<upto es x↔es[j].at_≤x:=by
 have ht:=upto_take hs x
 constructor
 ·intro h
  have hm:es[j]∈es.take (upto es x):=by
   rw [List.mem_take_iff_getElem]
   exact⟨j,by omega,rfl⟩
  rw [ht]at hm
  simpa using (List.mem_filter.1 hm).2
 ·intro h
  have hd:es.drop (upto es x)=es.filter fun e=> !decide (e.at_≤x):=by
   have hperm:=List.filter_append_perm (fun e:Evt=>decide (e.at_≤x)) es
   clear ht h hj
   unfold upto
   induction es with
   |nil=>rfl
   |cons e es ih =>
    obtain⟨h1,h2⟩:=List.pairwise_cons.1 hs
    by_cases c:e.at_≤x
    ·rw [List.countP_cons_of_pos (by simpa using c),List.drop_succ_cons,List.filter_cons_of_neg (by simpa using c)]
     exact ih h2 (List.filter_append_perm _ es)
    ·have h0:es.countP (fun e=>decide (e.at_≤x))=0:=List.countP_eq_zero.2 fun y hy=>by have:=h1 y hy;simp;omega
     rw [List.countP_cons_of_neg (by simpa using c),h0,List.drop_zero]
     symm
     rw [List.filter_eq_self]
     intro y hy
     rcases List.mem_cons.1 hy with rfl | hy
     ·simp;omega
     ·have:=h1 y hy;simp;omega
  rcases Nat.lt_or_ge j (upto es x)with g | g
  ·exact g
  ·have hm:es[j]∈es.drop (upto es x):=by
    rw [List.mem_drop_iff_getElem]
    exact⟨j - upto es x,by omega,by simp only [show upto es x+(j - upto es x)=j by omega]⟩
   rw [hd]at hm
   have:=(List.mem_filter.1 hm).2
   simp at this
   omega
theorem upto_le (es:List Evt) (x:Int):upto es x≤es.length:=List.countP_le_length
theorem dsum_evts {ps:List Per} (hv : ∀p∈ps,validB p.from_ p.to_=true) (x:Int):dsum ((evtsOf ps).filter fun e=>decide (e.at_≤x))=(cntAt (ps.map perT) x:Int):=by
 induction ps with
 |nil=>rfl
 |cons p ps ih =>
  have h:evtsOf (p::ps) = [⟨p.from_,1⟩,⟨p.to_,-1⟩]++evtsOf ps:=rfl
  have hp:=validB_lt (hv p (by simp))
  rw [h,List.filter_append,dsum_append,ih fun q hq=>hv q (by simp [hq])]
  unfold cntAt
  rw [List.map_cons,List.filter_cons (x:=perT p)]
  have hh:holdsAt x (perT p)=(decide (p.from_≤x)&&decide (x<p.to_)):=by
   unfold holdsAt validT perT
   simp only
   rw [hv p (by simp),Bool.true_and]
  rw [hh]
  by_cases c1:p.from_≤x
  ·by_cases c2:x<p.to_
   ·have c3 : ¬p.to_≤x:=by omega
    simp [c1,c2,c3,dsum]
    omega
   ·have c3:p.to_≤x:=by omega
    simp [c1,c2,c3,dsum]
  ·have c3 : ¬p.to_≤x:=by omega
   simp [c1,c3,dsum]
def idxOf (es:List Evt) (P:List Int):Nat→Nat
 |0=>0
 |k+1=>upto es P[k]!
structure EvtsAt (ps:List Per) (es:List Evt):Prop where
 perm:es.Perm (evtsOf ps)
 srt:es.Pairwise fun a b=>a.at_≤b.at_
 ok : ∀p∈ps,validB p.from_ p.to_=true
theorem EvtsAt.mem {ps:List Per} {es:List Evt} (h:EvtsAt ps es) (x:Int):x∈levPts ps↔ ∃e∈es,e.at_=x:=by
 obtain⟨_,p2,_⟩:=pts_law (ps.map perT)
 show x∈pts (ps.map perT)↔_
 rw [p2 x]
 unfold bnd
 rw [List.mem_flatMap]
 constructor
 ·rintro⟨t,ht,hx⟩
  obtain⟨p,hp,rfl⟩:=List.mem_map.1 ht
  have hv:validT (perT p)=true:=h.ok p hp
  rw [hv,if_pos rfl]at hx
  simp [perT]at hx
  rcases hx with rfl | rfl
  ·exact⟨⟨p.from_,1⟩,h.perm.mem_iff.2 (List.mem_flatMap.2 ⟨p,hp,by simp⟩),rfl⟩
  ·exact⟨⟨p.to_,-1⟩,h.perm.mem_iff.2 (List.mem_flatMap.2 ⟨p,hp,by simp⟩),rfl⟩
 ·rintro⟨e,he,rfl⟩
  obtain⟨p,hp,hx⟩:=List.mem_flatMap.1 (h.perm.mem_iff.1 he)
  refine⟨perT p,List.mem_map_of_mem hp,?_⟩
  have hv:validT (perT p)=true:=h.ok p hp
  rw [hv,if_pos rfl]
  simp at hx
  rcases hx with rfl | rfl <;> simp [perT]
theorem EvtsAt.at_mem {ps:List Per} {es:List Evt} (h:EvtsAt ps es) {j:Nat} (hj:j<es.length):es[j].at_∈levPts ps:=(h.mem _).2 ⟨_,List.getElem_mem hj,rfl⟩
theorem EvtsAt.asc {ps:List Per} {es:List Evt} (_:EvtsAt ps es):(levPts ps).Pairwise (· < ·):=(pts_law (ps.map perT)).1
theorem EvtsAt.ge {ps:List Per} {es:List Evt} (h:EvtsAt ps es) {k j:Nat} (hk:k<(levPts ps).length) (hj:j<es.length) (hi:idxOf es (levPts ps) k≤j):(levPts ps)[k]! ≤es[j].at_:=by
 cases k with
 |zero=>exact first_le h.asc (h.at_mem hj)
 |succ k =>
  have h1 : ¬j<upto es (levPts ps)[k]! := by
   have hi':upto es (levPts ps)[k]! ≤j:=hi
   omega
  rw [upto_iff h.srt _ j hj]at h1
  exact gap h.asc (h.at_mem hj) hk (by omega)
theorem EvtsAt.next {ps:List Per} {es:List Evt} (h:EvtsAt ps es) {k:Nat} (hk:k<(levPts ps).length) : ∃hi:idxOf es (levPts ps) k<es.length,es[idxOf es (levPts ps) k].at_=(levPts ps)[k]! := by
 have hm:(levPts ps)[k]! ∈levPts ps:=by rw [getElem!_pos _ k hk];exact List.getElem_mem _
 obtain⟨e,he,hx⟩:=(h.mem _).1 hm
 obtain⟨j,hj,rfl⟩:=List.getElem_of_mem he
 have hge:idxOf es (levPts ps) k≤j:=by
  cases k with
  |zero=>exact Nat.zero_le _
  |succ k =>
   rcases Nat.lt_or_ge j (upto es (levPts ps)[k]!)with g | g
   ·have:=(upto_iff h.srt _ j hj).1 g
    have h2:=asc_at h.asc (show k<k+1 by omega) hk
    omega
   ·exact g
 refine⟨by omega,?_⟩
 have h1:=h.ge hk (show idxOf es (levPts ps) k<es.length by omega) (Nat.le_refl _)
 have h2:es[idxOf es (levPts ps) k].at_≤es[j].at_:=by
  rcases Nat.lt_or_eq_of_le hge with g | g
  ·exact List.pairwise_iff_getElem.1 h.srt _ _ (by omega) hj g
  ·simp only [g];exact Int.le_refl _
 omega
theorem EvtsAt.last {ps:List Per} {es:List Evt} (h:EvtsAt ps es):idxOf es (levPts ps) (levPts ps).length=es.length:=by
 rcases Nat.eq_zero_or_pos (levPts ps).length with h0 | h0
 ·have hnil:levPts ps = []:=List.length_eq_zero_iff.1 h0
  have:es = []:=by
   cases es with
   |nil=>rfl
   |cons e es=>have:=(h.mem e.at_).2 ⟨e,by simp,rfl⟩;rw [hnil]at this;cases this
  rw [h0,this]
  rfl
 ·obtain⟨n,hn⟩ : ∃n,(levPts ps).length=n+1:=⟨(levPts ps).length - 1,by omega⟩
  have hle : ∀e∈es,e.at_≤(levPts ps)[n]! := fun e he=>by
   have:=le_last h.asc ((h.mem e.at_).2 ⟨e,he,rfl⟩)
   rw [hn]at this
   exact this
  rw [hn]
  show upto es (levPts ps)[n]! = es.length
  exact List.countP_eq_length.2 fun e he=>by simpa using hle e he
theorem EvtsAt.here {ps:List Per} {es:List Evt} (h:EvtsAt ps es) {k j:Nat} (hk:k<(levPts ps).length) (hi:idxOf es (levPts ps) k≤j) (hj:j<es.length):es[j].at_=(levPts ps)[k]! ↔j<idxOf es (levPts ps) (k+1):=by
 show _↔j<upto es (levPts ps)[k]!
 rw [upto_iff h.srt _ j hj]
 have:=h.ge hk hj hi
 omega
theorem EvtsAt.mono {ps:List Per} {es:List Evt} (h:EvtsAt ps es) {k:Nat} (hk:k<(levPts ps).length):idxOf es (levPts ps) k<idxOf es (levPts ps) (k+1):=by
 obtain⟨h1,h2⟩:=h.next hk
 exact(h.here hk (Nat.le_refl _) h1).1 h2
theorem EvtsAt.idx_ge {ps:List Per} {es:List Evt} (h:EvtsAt ps es) : ∀k,k≤(levPts ps).length→k≤idxOf es (levPts ps) k:=by
 intro k
 induction k with
 |zero=>intro _;exact Nat.zero_le _
 |succ k ih=>intro hk;have:=ih (by omega);have:=h.mono (k:=k) (by omega);omega
theorem EvtsAt.depth {ps:List Per} {es:List Evt} (h:EvtsAt ps es) {k:Nat}:dsum (es.take (idxOf es (levPts ps) (k+1)))=(levF ps k:Int):=by
 show dsum (es.take (upto es (levPts ps)[k]!))=_
 rw [upto_take h.srt,dsum_perm (h.perm.filter _),dsum_evts h.ok]
 rfl
theorem EvtsAt.openLen {ps:List Per} {es:List Evt} (h:EvtsAt ps es) {k:Nat} (hk:k≤(levPts ps).length):((levOf (levPts ps) (levF ps) k).1.length:Int)=dsum (es.take (idxOf es (levPts ps) k)):=by
 cases k with
 |zero=>rfl
 |succ k =>
  rw [h.depth,(levOf_law h.asc (levF ps) (k+1) hk).2.2.2 (by omega)]
  rfl
theorem dsum_take (es:List Evt) (j:Nat) (hj:j<es.length):dsum (es.take (j+1))=dsum (es.take j)+es[j].d:=by
 rw [List.take_succ_eq_append_getElem hj,dsum_append]
 simp [dsum]
end Go.Proofs.YtkddkbpoefidpaaGreatDoor
namespace Go.Proofs.YtkddkbpoefidpaaGreatDoor
open Go.RowKit Go.Shelf Go.Sort
def okI (x:Int):Prop:= -9223372036854775808≤x∧x≤9223372036854775807
def perEnc (x:Per):List Value:= [.int .i64 x.from_,.int .i64 x.to_]
def Rep.per:Rep Per where
 size:=2
 holds _ cs x:=cs=perEnc x∧okI x.from_∧okI x.to_
 len:=by rintro w cs x ⟨rfl,_⟩;rfl
 ext:=by rintro w w' cs x h _;exact h
 one:=by rintro w cs x ⟨rfl,_⟩;simp [perEnc,Value.oneCell']
theorem flat_per:Rep.per.flat:=fun _ _ _ _ h=>h
theorem info_per:(Tryz.prog.info? 94).map (fun i=>(i.zero,i.size,i.bytes))=some (some (.agg #[.int .i64 0,.int .i64 0]),Rep.per.size,16):=by kernel_rfl
theorem per_at {h:View} {b o n cap:Nat} {xs:List Per} (k:SliceOf Rep.per h (.slice (some ⟨b,o,none⟩) n cap) xs) (i:Nat) (hi:i<xs.length) :
  h ⟨b,o+i*2,none⟩=some (.int .i64 xs[i].from_)∧h ⟨b,o+i*2+1,none⟩=some (.int .i64 xs[i].to_)∧okI xs[i].from_∧okI xs[i].to_:=by
 obtain⟨c,⟨rfl,h1⟩,h2⟩:=k.at i hi
 exact⟨h2 0 _ rfl,h2 1 _ rfl,h1⟩
end Go.Proofs.YtkddkbpoefidpaaGreatDoor
namespace Go.Proofs.YtkddkbpoefidpaaGreatDoor
open Go.RowKit
structure Chg (C:Nat→Prop) (w w':World):Prop where
 os:w'.os=w.os
 tape:w'.tape=w.tape
 output:w'.output=w.output
 size:w.heap.size≤w'.heap.size
 block : ∀k,k<w.heap.size→ ¬C k→w'.heap[k]?=w.heap[k]?
theorem Chg.refl (C:Nat→Prop) (w:World):Chg C w w:=⟨rfl,rfl,rfl,Nat.le_refl _,fun _ _ _=>rfl⟩
theorem Chg.trans {C:Nat→Prop} {a b c:World} (h:Chg C a b) (k:Chg C b c):Chg C a c :=
 ⟨k.os.trans h.os,k.tape.trans h.tape,k.output.trans h.output,Nat.le_trans h.size k.size,fun i hi hc=>(k.block i (Nat.lt_of_lt_of_le hi h.size) hc).trans (h.block i hi hc)⟩
theorem Ext.chg {a b:World} (h:Ext a b) (C:Nat→Prop):Chg C a b:=⟨h.os,h.tape,h.output,h.size,fun k hk _=>h.block k hk⟩
theorem chg_grown {a b:World} {row:Option Nat} (h:a.grownBy b row):Chg (fun k=>row=some k) a b:=⟨h.os,h.tape,h.output,h.size,fun k hk hc=>h.block k hk fun e=>hc e.symm⟩
theorem chg_set (w:World) (p:Addr) (u:Value):Chg (fun k=>k=p.block) w (w.setCell p u):=⟨rfl,rfl,rfl,by simp [World.setCell],fun k _ hc=>Below.heap_setCell _ _ _ _ hc⟩
theorem Chg.drew {C:Nat→Prop} {a w:World} (h:Chg C a w):Chg C a w.drew:=⟨h.os,h.tape,h.output,h.size,h.block⟩
theorem Chg.alloc {C:Nat→Prop} {a w:World} (h:Chg C a w) (o:Obj):Chg C a (w.alloc o):=h.trans (((Ext.refl w).alloc o).chg C)
theorem Chg.ext {C:Nat→Prop} {a w w':World} (h:Chg C a w) (k:Ext w w'):Chg C a w':=h.trans (k.chg C)
theorem Chg.setCell {C:Nat→Prop} {a w:World} (h:Chg C a w) {p:Addr} (hp:C p.block∨a.heap.size≤p.block) (u:Value):Chg C a (w.setCell p u) :=
 ⟨h.os,h.tape,h.output,Nat.le_trans h.size (by simp [World.setCell]),fun k hk hc=>by
  rw [Below.heap_setCell]
  ·exact h.block k hk hc
  ·rintro rfl;rcases hp with hp | hp
   ·exact hc hp
   ·omega⟩
theorem Chg.grown {C:Nat→Prop} {a w w':World} {row:Option Nat} (h:Chg C a w) (hg:w.grownBy w' row) (hr : ∀k,row=some k→C k∨a.heap.size≤k):Chg C a w' :=
 ⟨hg.os.trans h.os,hg.tape.trans h.tape,hg.output.trans h.output,Nat.le_trans h.size hg.size,fun k hk hc=>by
  rw [hg.block k (Nat.lt_of_lt_of_le hk h.size) (fun e=>by rcases hr k e.symm with hr | hr;exact hc hr;omega)]
  exact h.block k hk hc⟩
theorem Chg.at {C:Nat→Prop} {w w':World} (h:Chg C w w') {p:Addr} {v:Value} (hc:w.cell? p=some v) (hn : ¬C p.block):w'.cell? p=some v :=
 (World.cell?_of_block (w:=w) (h.block p.block (World.block_lt_of_cell? w p hc) hn)).trans hc
theorem Chg.free {C:Nat→Prop} {w w':World} (h:Chg C w w') {p:Addr} {v:Value} (hc:w.cell? p=some v) (hf:w.frozen? p=false) (hn : ¬C p.block):w'.frozen? p=false :=
 (World.frozen?_of_block (w:=w) (h.block p.block (World.block_lt_of_cell? w p hc) hn)).trans hf
theorem Chg.below {C:Nat→Prop} {a w w':World} (h:Chg C w w') (k:Ext a w) (hC : ∀b,C b→a.heap.size≤b):Ext a w' :=
 ⟨h.os.trans k.os,h.tape.trans k.tape,h.output.trans k.output,Nat.le_trans k.size h.size,fun b hb=>(h.block b (Nat.lt_of_lt_of_le hb k.size) fun hc=>by have:=hC b hc;omega).trans (k.block b hb)⟩
theorem Chg.own {C:Nat→Prop} {w w':World} (h:Chg C w w') {base:Nat} {e:TypeId} {size:Nat} {v:Value} {n:Nat} {xs:List Value} (hv:w.ownsRow base e size v n xs) (hn : ∀k,v.ownBlock=some k→ ¬C k):w'.ownsRow base e size v n xs:=by
 refine⟨hv.1,?_⟩
 rcases hv.2 with h2 | ⟨g,cap,cur,he,hb,hg,r⟩
 ·exact .inl h2
 ·exact .inr ⟨g,cap,cur,he,hb,by rw [h.block g (Array.getElem?_eq_some_iff.1 hg).1 (hn g (by rw [he];rfl))];exact hg,r⟩
theorem OwnOf.chg {α:Type} {R:Rep α} (hR:R.flat) {C:Nat→Prop} {w w':World} {S:Nat→Prop} {base:Nat} {e:TypeId} {v:Value} {xs:List α} (h:OwnOf R w S base e v xs) (hx:Chg C w w') (hn : ∀k,v.ownBlock=some k→ ¬C k):OwnOf R w' S base e v xs:=by
 obtain⟨css,h1,h2⟩:=h
 exact⟨css,h1.flatView hR,hx.own h2 hn⟩
theorem SliceOf.chg {α:Type} {R:Rep α} {C:Nat→Prop} {w w':World} {S:Nat→Prop} {v:Value} {xs:List α} (h:SliceOf R (on w S) v xs) (hx:Chg C w w') (hS : ∀k,S k→ ¬C k):SliceOf R (on w' S) v xs :=
 h.ext fun p u e=>by
  obtain⟨h1,h2⟩:=on_some.1 e
  exact on_some.2 ⟨h1,hx.at h2 (hS _ h1)⟩
theorem OwnOf.form {α:Type} {R:Rep α} {w:World} {S:Nat→Prop} {base:Nat} {e:TypeId} {v:Value} {xs:List α} (h:OwnOf R w S base e v xs):(v = .slice none 0 0∧xs = [])∨ ∃g cap,v = .slice (some ⟨g,0,none⟩) xs.length cap∧base≤g∧xs.length≤cap∧cap≤maxLen:=by
 obtain⟨css,h1,_,h2⟩:=h
 rcases h2 with ⟨rfl,h2⟩ | ⟨g,cap,cur,rfl,hb,hg,h3,h4,_⟩
 ·exact .inl ⟨rfl,List.eq_nil_of_length_eq_zero h2⟩
 ·exact .inr ⟨g,cap,rfl,hb,h3,h4⟩
end Go.Proofs.YtkddkbpoefidpaaGreatDoor
namespace Go.Proofs.YtkddkbpoefidpaaGreatDoor
open Go.RowKit
theorem OwnOf.take {α:Type} {R:Rep α} {w:World} {S:Nat→Prop} {base:Nat} {e:TypeId} {g cap n:Nat} {xs:List α} (h:OwnOf R w S base e (.slice (some ⟨g,0,none⟩) xs.length cap) xs) (hn:n≤xs.length) :
  OwnOf R w S base e (.slice (some ⟨g,0,none⟩) n cap) (xs.take n):=by
 obtain⟨css,h1,h2,h3⟩:=h
 have hcl:=h1.length
 have hlen : ∀c∈css,c.length=R.size:=repAll_len' h1
 have ht:RepAll R (on w (avoid S (.slice (some ⟨g,0,none⟩) n cap))) (css.take n) (xs.take n):=RepAll.take h1 n
 have hfl : ∀(l:List (List Value)) (k:Nat),(∀c∈l,c.length=R.size)→k≤l.length→(l.take k).flatten=l.flatten.take (k*R.size)∧(l.take k).flatten.length=k*R.size:=by
  intro l
  induction l with
  |nil=>intro k _ hk;simp at hk;subst hk;simp
  |cons c l ih =>
   intro k hl hk
   cases k with
   |zero=>simp
   |succ k =>
    obtain⟨i1,i2⟩:=ih k (fun d hd=>hl d (by simp [hd])) (by simpa using hk)
    have hc:=hl c (by simp)
    have ht:List.take (k*R.size+R.size) c=c:=List.take_of_length_le (by omega)
    rw [List.take_succ_cons,List.flatten_cons,List.flatten_cons,List.length_append,hc,i2,Nat.succ_mul]
    rw [List.take_append,ht,hc,Nat.add_sub_cancel,i1]
    exact⟨rfl,by omega⟩
 obtain⟨f1,f2⟩:=hfl css n hlen (by rw [hcl];exact hn)
 refine⟨css.take n,ht,?_,?_⟩
 ·rw [f2,List.length_take,Nat.min_eq_left hn]
 ·rcases h3 with ⟨h3,h4⟩ | ⟨g',cap',cur,he,hb,hg,hc1,hc2,hsz,htk⟩
  ·cases h3
  ·injection he with e1 e2 e3
   injection e1 with e1
   injection e1 with e1
   subst e1 e3
   refine .inr ⟨g,cap,cur,?_,hb,hg,?_,hc2,hsz,?_⟩
   ·rw [List.length_take,Nat.min_eq_left hn]
   ·rw [List.length_take,Nat.min_eq_left hn];omega
   ·rw [f1,←htk,List.length_take,Nat.min_eq_left hn,List.take_take,Nat.min_eq_left (Nat.mul_le_mul_right _ hn)]
end Go.Proofs.YtkddkbpoefidpaaGreatDoor
namespace Go.Proofs.YtkddkbpoefidpaaGreatDoor
open Go.RowKit
section
variable {P:Program} {w:World} {o:Oper} {a:Act} {K:Act→World→Prop} {Q:Exit→Act→World→Prop} {E:Prop}
theorem key_op {yd:Nat→Option Bool} (n:Nat) {op:Op} {ty:TypeId} {pos:String} {after:Array Edge} {g:Option (Nat×Bool)} (h:if Region.wanted ⟨some n,op,ty,pos,after,g⟩ yd=true then Oper.wp P ⟨some n,op,ty,pos,after,g⟩ a w K Q else E) :
 if Region.wanted ⟨some n,op,ty,pos,after,g⟩ yd=true then Oper.wp P ⟨some n,op,ty,pos,after,g⟩ a w K Q else E:=h
theorem step_append_all {α:Type} {yd:Nat→Option Bool} (R:Rep α) (S:Nat→Prop) (hgd:o.guard=none) (s x:Operand) (t:TypeId)
  (ho:o.op = .call { callee:= .builtin .append,args:= #[s,x],argTypes:= #[t,t] })
  (base:Nat) (e:TypeId) (i:TypeInfo) (z:Value) (bytes:Nat) (ht:P.underlying t=some (.slice e)) (hi:P.info? e=some i) (hz:i.zero=some z)
  (hsize:i.size=R.size) (hby:i.bytes=bytes) (hzs:z.cells.size=R.size) (hsz:0<R.size)
  (v:Value) (xs:List α) (hs:a.eval s=v) (hown:OwnOf R w S base e v xs)
  (u:Value) (ys:List α) (hx:a.eval x=u) (hy:SliceOf R (on w (avoid S v)) u ys)
  (h63:xs.length+ys.length≤maxLen) (hbytes:(xs.length+ys.length)*bytes≤140737488355328) (hbase:base≤w.heap.size)
  (h : ∀v' w',OwnOf R w' S base e v' (xs++ys)→w.grownBy w' v.ownBlock→(v'.ownBlock=v.ownBlock∨v'.ownBlock=some w.heap.size)→K (a.put o.dst v') w') :
  if Region.wanted o yd=true then Oper.wp P o a w K Q else E:=by
 have hw:Region.wanted o yd=true:=by simp [Region.wanted,hgd]
 rw [if_pos hw]
 obtain⟨css,h1,h2⟩:=hown
 obtain⟨dss,h3,h4⟩:=hy
 rcases h4.src with ⟨rfl,hn,hd⟩ | ⟨ad,cap,rfl,_,_,hc⟩
 ·have hys:ys = []:=List.eq_nil_of_length_eq_zero hn
  subst hys
  have hrun:=run_append_owned_none (P:=P) (w:=w) base t o.type e i R.size ht hi v xs.length css.flatten h2
  unfold Oper.wp
  simp [execOp,ho,resolve,invoke,builtin,hs,hx,hrun,Result.andThen]
  exact h v w (by rw [List.append_nil];exact⟨css,h1,h2⟩) ⟨rfl,rfl,rfl,Nat.le_refl _,fun _ _ _=>rfl⟩ (.inl rfl)
 ·obtain⟨v',w',hr,g1,g2,_,g3⟩:=run_append_own_at (P:=P) w base t o.type e i z R.size bytes ht hi hz hsize hby hzs hsz v xs.length css.flatten h2 ad ys.length cap dss.flatten h3.flat (fun j u hj=>(on_some.1 (hc j u hj)).2) h3.ones h63 hbytes hbase
  unfold Oper.wp execOp
  simp only [ho,resolve,invoke,builtin,Sem.run_bind,Sem.run_pure,Result.andThen_ok,List.map_toArray,List.map_cons,List.map_nil,hs,hx,hr]
  exact h v' w' (OwnOf.pushAll h1 h3 g1 g2 g3) g2 g3
end
theorem Ext.grownNew {a w w':World} {v:Value} (h:Ext a w) (hg:w.grownBy w' v.ownBlock) (hv : ∀k,v.ownBlock=some k→a.heap.size≤k):Ext a w' :=
 Below.grown h hg h.size hv
theorem own_nil (B:Nat) : ∀k,(Value.slice none 0 0).ownBlock=some k→B≤k:=fun k h=>by cases h
theorem OwnOf.base {α:Type} {R:Rep α} {w:World} {S:Nat→Prop} {base:Nat} {e:TypeId} {v:Value} {xs:List α} (h:OwnOf R w S base e v xs) : ∀k,v.ownBlock=some k→base≤k:=fun k hk=>(h.lt k hk).1
theorem int_lone (h:View) (b:Nat) (x:Int) (hr : -9223372036854775808≤x∧x≤9223372036854775807) (h0:h ⟨b,0,none⟩=some (.int .i64 x)):SliceOf Rep.int h (.slice (some ⟨b,0,none⟩) 1 1) [x] :=
 ⟨[[.int .i64 x]],⟨⟨rfl,hr⟩,trivial⟩,.inr ⟨_,1,rfl,Nat.le_refl _,by simp [maxLen],.inr ⟨b,0,rfl,fun j u hj=>by
  match j,hj with
  |0,hj=>simp at hj;rw [←hj];exact h0⟩⟩⟩
theorem SliceOf.away {α:Type} {R:Rep α} (hR:R.flat) {w w':World} {v u:Value} {xs:List α} (h:SliceOf R w.cell? v xs) (hx:Ext w w') (hv : ∀k,u.ownBlock=some k→w.heap.size≤k):SliceOf R (on w' (avoid (fun _=>True) u)) v xs:=by
 obtain⟨css,h1,h2⟩:=h
 exact⟨css,h1.flatView hR,h2.sub fun p x e=>on_some.2 ⟨⟨fun e2=>by have:=hv _ e2.symm;have:=World.block_lt_of_cell? w p e;omega,trivial⟩,hx.at e⟩⟩
theorem lone_new {w:World} {v:Value} {x:Int} {xs:List Int} {S:Nat→Prop} {base:Nat} {e T:TypeId} (hr : -9223372036854775808≤x∧x≤9223372036854775807) (own:OwnOf Rep.int w S base e v xs) :
  SliceOf Rep.int (on (w.alloc (.cells #[.int .i64 x] T)) (avoid (fun _=>True) v)) (.slice (some ⟨w.heap.size,0,none⟩) 1 1) [x] :=
 int_lone _ _ x hr (on_some.2 ⟨⟨fun e=>Nat.lt_irrefl _ (own.lt _ e.symm).2,trivial⟩,cells_new w [.int .i64 x] T 0 _ rfl⟩)
theorem lone_old {w w1:World} {v u:Value} {x:Int} {T:TypeId} (hr : -9223372036854775808≤x∧x≤9223372036854775807) (hg:(w.alloc (.cells #[.int .i64 x] T)).drew.grownBy w1 u.ownBlock) (hu:u.ownBlock=none) (hat:v.ownBlock=u.ownBlock∨v.ownBlock=some (w.alloc (.cells #[.int .i64 x] T)).drew.heap.size) :
  SliceOf Rep.int (on w1 (avoid (fun _=>True) v)) (.slice (some ⟨w.heap.size,0,none⟩) 1 1) [x]:=by
 refine int_lone _ _ x hr (on_some.2 ⟨⟨fun e=> ?_,trivial⟩,hg.cell ?_ (by rw [hu];simp)⟩)
 ·rcases hat with hat | hat
  ·rw [hat,hu]at e;simp at e
  ·rw [hat]at e;simp at e
 ·exact(Ext.refl _).drew.at (cells_new w [.int .i64 x] T 0 _ rfl)
theorem slice_lit {α:Type} (R:Rep α) (w:World) (cells:List Value) (T:TypeId) (css:List (List Value)) (xs:List α) (hc:css.flatten=cells) (h:RepAll R (w.alloc (.cells cells.toArray T)).cell? css xs) (hl:xs.length≤maxLen) :
  SliceOf R (w.alloc (.cells cells.toArray T)).cell? (.slice (some ⟨w.heap.size,0,none⟩) xs.length xs.length) xs:=by
 refine⟨css,h,.inr ⟨_,_,rfl,Nat.le_refl _,hl,.inr ⟨_,0,rfl,fun j u hj=> ?_⟩⟩⟩
 rw [World.cell?_alloc_at _ _ _ _ rfl]
 rw [hc]at hj
 simpa using hj
end Go.Proofs.YtkddkbpoefidpaaGreatDoor
