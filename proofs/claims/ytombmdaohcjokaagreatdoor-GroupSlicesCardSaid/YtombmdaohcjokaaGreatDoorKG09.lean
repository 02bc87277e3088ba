/- joined texts of a proof: GrpQ, GrpA, PlainX, EvalF, EvalM, EvalA, EvalB -/
import Derived.Test.YtombmdaohcjokaaGreatDoorKG08
import Derived.Test.YtombmdaohcjokaaGreatDoorKG05
import Derived.Test.YtombmdaohcjokaaGreatDoorKG01
import Derived.Laws.Bits64
import Derived.StillTailTactics
import Derived.BigQuiet
namespace Go.Proofs.YtombmdaohcjokaaGreatDoor
open Go.RowKit
theorem slice_flatA {α:Type} (ks:List α) (G:α→List Tup) (t:Int):sliceRows (ks.flatMap G) t=ks.flatMap fun r=>sliceRows (G r) t:=by
 induction ks with
 |nil=>rfl
 |cons r ks ih=>rw [List.flatMap_cons,List.flatMap_cons,sliceRows_append,ih]
section
open Classical
variable (proj:List Val→List Val) (aggV:List (List Val)→List Val) (always:Bool)
theorem gKeys_nodup (l:List Tup):(gKeys proj always l).Nodup:=by
 unfold gKeys
 split
 ·simp
 ·exact once_nodup _
noncomputable def rowsAt (l:List Tup) (t:Int):List Row:=(gKeys proj always l).flatMap fun kv=>if (always=true∧0≤t∧t<1000000)∨(always=false∧(gMem proj l kv).any (holdsAt t)=true)then [gRow aggV kv (gMem proj l kv) t]else []
theorem agg_rows (l:List Tup) (t:Int):(sliceRows (aggT proj aggV always l) t).Perm (rowsAt proj aggV always l t):=by
 refine(normT_rows _ t).trans (List.Perm.of_eq ?_)
 unfold aggRaw rowsAt
 rw [slice_flatA]
 exact flat_congr fun kv _=>gOut_at aggV always kv _ (fun m hm=>clip_mem (List.mem_filter.1 hm).1) t
def lastN (r:Row):Nat:=match r.vals.getLast? with
 |some v=>v.n.toNat
 |none=>0
def sumG (l:List Row):Nat:=(l.map lastN).sum
theorem gKeys_len (l:List Tup):(gKeys proj always l).length≤l.length+1:=by
 unfold gKeys
 split
 ·simp
 ·have h : ∀m:List (List Val),(once m).length≤m.length:=fun m=>by
   induction m with
   |nil=>exact Nat.le_refl _
   |cons y m ih =>
    unfold once
    split
    ·rw [List.length_cons];omega
    ·rw [List.length_cons,List.length_cons];omega
  have h1:=h ((clipT l).map fun t=>proj t.vals)
  rw [List.length_map]at h1
  have:=clip_len l
  omega
theorem aggRaw_len (l:List Tup):(aggRaw proj aggV always l).length≤4*l.length+2:=by
 have hnd:(gKeys proj always l).Nodup:=by
  unfold gKeys
  split
  ·simp
  ·exact once_nodup _
 have h1:=rawG_len2 proj aggV always (clipT l) (gKeys proj always l) hnd
 have h2:=gKeys_len proj always l
 have h3:=clip_len l
 have h4:aggRaw proj aggV always l=rawG proj aggV always (clipT l) (gKeys proj always l):=rfl
 rw [h4]
 omega
theorem agg_len (l:List Tup) (hl:l.length≤400):(aggT proj aggV always l).length≤1099511627776:=by
 have h1:=aggRaw_len proj aggV always l
 unfold aggT
 generalize aggRaw proj aggV always l=R at h1
 have hr:R.length≤4096:=by omega
 unfold normT
 rw [sortBy_length]
 have h3:=normRaw_len (rowsOf R) R
 have h : ∀m:List Row,(once m).length≤m.length:=fun m=>by
  induction m with
  |nil=>exact Nat.le_refl _
  |cons y m ih =>
   unfold once
   split
   ·rw [List.length_cons];omega
   ·rw [List.length_cons,List.length_cons];omega
 have h4:(rowsOf R).length≤R.length:=by
  unfold rowsOf
  refine Nat.le_trans (h _) ?_
  rw [List.length_map]
  exact List.length_filter_le _ _
 have h5:(rowsOf R).length*(R.length*(2*R.length))≤4096*(4096*(2*4096)):=Nat.mul_le_mul (by omega) (Nat.mul_le_mul (by omega) (Nat.mul_le_mul_left _ (by omega)))
 omega
theorem agg_fit (l:List Tup) (t:Int) (hl:l.length≤400) (hf : ∀t∈l,fitVals t.vals∧t.lin.length≤256)
  (hfit : ∀vss,(∀vs∈vss,∃u∈l,vs=u.vals)→(aggV vss).length≤1000∧ ∀x∈aggV vss,x.s.size≤1048576) (hp : ∀vs,(proj vs).length≤1000):fitRows (sliceRows (aggT proj aggV always l) t):=by
 have hpm:=agg_rows proj aggV always l t
 have hrl : ∀ks:List (List Val),(ks.flatMap fun kv=>if (always=true∧0≤t∧t<1000000)∨(always=false∧(gMem proj l kv).any (holdsAt t)=true)then [gRow aggV kv (gMem proj l kv) t]else []).length≤ks.length:=fun ks=>by
  induction ks with
  |nil=>exact Nat.zero_le _
  |cons r ks ih =>
   rw [List.flatMap_cons,List.length_append,List.length_cons]
   split
   ·rw [List.length_singleton];omega
   ·rw [List.length_nil];omega
 refine⟨?_,fun r hr=> ?_⟩
 ·rw [hpm.length_eq]
  have h1:=hrl (gKeys proj always l)
  have h2:=gKeys_len proj always l
  unfold rowsAt
  omega
 ·have h:=hpm.mem_iff.1 hr
  unfold rowsAt at h
  obtain⟨kv,hk,h⟩:=List.mem_flatMap.1 h
  split at h
  ·rw [List.mem_singleton]at h
   subst h
   have hkl:kv.length≤1000:=by
    unfold gKeys at hk
    split at hk
    ·rw [List.mem_singleton]at hk;subst hk;exact Nat.zero_le _
    ·obtain⟨y,_,rfl⟩:=List.mem_map.1 (mem_once.1 hk)
     exact hp _
   exact gRow_fit (proj:=proj) (L:=clipT l) (fun y hy=>clip_from hy) (Nat.le_trans (clip_len l) hl) hf hfit hkl t
  ·cases h
end
theorem levels_one (f t:Int) (h:validB f t=true):levels [⟨f,t⟩] = [⟨f,t⟩]:=by
 have hv:=validB_lt h
 have hb:bnd [perT ⟨f,t⟩] = [f,t]:=by
  unfold bnd
  rw [List.flatMap_cons,List.flatMap_nil,List.append_nil,if_pos (show validT (perT ⟨f,t⟩)=true from h)]
  rfl
 have hp:pts [perT ⟨f,t⟩] = [f,t]:=by
  obtain⟨a1,a2,_⟩:=pts_law [perT ⟨f,t⟩]
  refine List.Perm.eq_of_pairwise (le:=(· < ·)) (fun x y _ _ h1 h2=>by omega) a1 (by simp;omega) ((List.perm_ext_iff_of_nodup (a1.imp fun h=>by omega) (by simp;omega)).2 fun x=>by rw [a2,hb])
 have hl:levPts [⟨f,t⟩] = [f,t]:=hp
 have hc : ∀x,cntAt [perT ⟨f,t⟩] x=if f≤x∧x<t then 1 else 0:=fun x=>by
  unfold cntAt
  rw [List.filter_cons,List.filter_nil]
  have e:holdsAt x (perT ⟨f,t⟩)=(decide (f≤x)&&decide (x<t)):=by
   unfold holdsAt
   rw [show validT (perT ⟨f,t⟩)=true from h,Bool.true_and]
   rfl
  rw [e]
  by_cases c:f≤x∧x<t
  ·rw [if_pos c,if_pos (by simp [c])];rfl
  ·rw [if_neg c,if_neg (by simpa using c)];rfl
 have f0:levF [⟨f,t⟩] 0=1:=by
  unfold levF
  rw [hl]
  show cntAt [perT ⟨f,t⟩] f=1
  rw [hc,if_pos (by omega)]
 have f1:levF [⟨f,t⟩] 1=0:=by
  unfold levF
  rw [hl]
  show cntAt [perT ⟨f,t⟩] t=0
  rw [hc,if_neg (by omega)]
 unfold levels
 rw [hl]
 show (levStep (levF [⟨f,t⟩] 1) t (levStep (levF [⟨f,t⟩] 0) f ([],[]))).2=_
 rw [f0,f1]
 rfl
theorem norm_one (x:Tup) (h:validT x=true):normT [x] = [x]:=by
 have h1:rowsOf [x] = [tupRow x]:=by
  unfold rowsOf
  rw [List.filter_cons,if_pos h]
  show once [tupRow x]=_
  unfold once
  rw [if_neg (by simp)]
  rfl
 have h2:persOf (tupRow x) [x] = [⟨x.from_,x.to_⟩]:=by
  unfold persOf
  rw [List.filter_cons,if_pos h,List.filter_nil,List.filter_cons,if_pos (by simp)]
  rfl
 unfold normT normRaw
 rw [h1,List.flatMap_cons,List.flatMap_nil,List.append_nil,h2,levels_one _ _ h]
 exact sortBy_short _ _ (by simp)
theorem agg_none (proj:List Val→List Val):aggT proj (cntV 1) true [] = [⟨[intVal 0],0,1000000,[]⟩]:=by
 have hb:bnd [dayT] = [0,1000000]:=by rfl
 have hp:pts [dayT] = [0,1000000]:=by
  obtain⟨a1,a2,_⟩:=pts_law [dayT]
  refine List.Perm.eq_of_pairwise (le:=(· < ·)) (fun x y _ _ h1 h2=>by omega) a1 (by simp) ((List.perm_ext_iff_of_nodup (a1.imp fun h=>by omega) (by simp)).2 fun x=>by rw [a2,hb])
 have hm:mergeL [] [] = []:=by
  obtain⟨_,h2⟩:=mergeL_law [] []
  exact List.eq_nil_iff_forall_not_mem.2 fun x hx=>by have:=(h2 x).1 hx;simp at this
 unfold aggT aggRaw gKeys
 rw [if_pos rfl,List.flatMap_cons,List.flatMap_nil,List.append_nil]
 have hg:gMem proj [] [] = []:=rfl
 rw [hg]
 have ho:gOut (cntV 1) true [] [] = [⟨[intVal 0],0,1000000,[]⟩]:=by
  unfold gOut gPts
  rw [if_pos rfl,hp]
  show gUpto (cntV 1) true [0,1000000] [] [] (0+1)=_
  unfold gUpto
  unfold gUpto
  rw [if_pos (show gHas true [] ([0,1000000]:List Int)[0]! = true from rfl)]
  show [tupOf (gRow (cntV 1) [] [] 0) ⟨0,1000000⟩]=_
  unfold gRow tupOf
  simp only [List.filter_nil,List.flatMap_nil,hm]
  rfl
 rw [ho]
 exact norm_one _ (by decide)
end Go.Proofs.YtombmdaohcjokaaGreatDoor
namespace Go.Proofs.YtombmdaohcjokaaGreatDoor
open Go.RowKit
def argsC (col:Int) (vss:List (List Val)):List Val:=(vss.map fun vs=>colAt vs col).filter fun v=>decide (v.kind≠0)
def sumI (xs:List Val):Int:=((xs.filter fun v=>decide (v.kind=1)).map Val.n).sum
def anyI (xs:List Val):Bool:=xs.any fun v=>decide (v.kind=1)
def sumV (xs:List Val):Val:=if anyI xs=true∧ -9223372036854775808≤sumI xs∧sumI xs≤9223372036854775807 then intVal (sumI xs)else nV
theorem sumI_take (xs:List Val) (k:Nat) (h:k<xs.length):sumI (xs.take (k+1))=sumI (xs.take k)+if xs[k].kind=1 then xs[k].n else 0:=by
 unfold sumI
 rw [List.take_succ_eq_append_getElem h,List.filter_append,List.map_append,List.sum_append]
 congr 1
 rw [List.filter_cons,List.filter_nil]
 by_cases e:xs[k].kind=1
 ·rw [if_pos e,if_pos (by simp [e])];simp
 ·rw [if_neg e,if_neg (by simp [e])];simp
theorem anyI_take (xs:List Val) (k:Nat) (h:k<xs.length):anyI (xs.take (k+1))=(anyI (xs.take k)||decide (xs[k].kind=1)):=by
 unfold anyI
 rw [List.take_succ_eq_append_getElem h,List.any_append,List.any_cons,List.any_nil,Bool.or_false]
theorem sumI_bound {xs:List Val} {b:Int} (hb:0≤b) (h : ∀v∈xs,-b≤v.n∧v.n≤b) : -(b*xs.length)≤sumI xs∧sumI xs≤b*xs.length:=by
 induction xs with
 |nil=>simp [sumI]
 |cons x xs ih =>
  have h1:=ih fun v hv=>h v (by simp [hv])
  have h2:=h x (by simp)
  have e:b*((x::xs).length:Int)=b*xs.length+b:=by rw [List.length_cons];push_cast;rw [Int.mul_add,Int.mul_one]
  have e2:sumI (x::xs)=(if x.kind=1 then x.n else 0)+sumI xs:=by
   unfold sumI
   rw [List.filter_cons]
   by_cases c:x.kind=1
   ·rw [if_pos c,if_pos (by simp [c])];simp
   ·rw [if_neg c,if_neg (by simp [c])];simp
  rw [e,e2]
  split <;> omega
def pickMin:List Val→Val
 |[]=>nV
 |x::xs=>xs.foldl (fun m y=>if cmpVal y m<0 then y else m) x
def pickMax:List Val→Val
 |[]=>nV
 |x::xs=>xs.foldl (fun m y=>if 0<cmpVal y m then y else m) x
theorem fold_min (xs:List Val) : ∀x,(xs.foldl (fun m y=>if cmpVal y m<0 then y else m) x=x∨xs.foldl (fun m y=>if cmpVal y m<0 then y else m) x∈xs)∧cmpVal (xs.foldl (fun m y=>if cmpVal y m<0 then y else m) x) x≤0∧ ∀y∈xs,cmpVal (xs.foldl (fun m y=>if cmpVal y m<0 then y else m) x) y≤0:=by
 induction xs with
 |nil=>exact fun x=>⟨.inl rfl,by rw [List.foldl_nil,(ord_val.eq x x).2 rfl];decide,fun y hy=>by cases hy⟩
 |cons z xs ih =>
  intro x
  rw [List.foldl_cons]
  by_cases c:cmpVal z x<0
  ·rw [if_pos c]
   obtain⟨h1,h2,h3⟩:=ih z
   refine⟨?_,ord_val.le_tr _ _ _ h2 (by omega),fun y hy=> ?_⟩
   ·rcases h1 with h | h
    ·exact .inr (by rw [h];simp)
    ·exact .inr (by simp [h])
   ·rcases List.mem_cons.1 hy with rfl | hy
    ·exact h2
    ·exact h3 y hy
  ·rw [if_neg c]
   obtain⟨h1,h2,h3⟩:=ih x
   refine⟨?_,h2,fun y hy=> ?_⟩
   ·rcases h1 with h | h
    ·exact .inl h
    ·exact .inr (by simp [h])
   ·rcases List.mem_cons.1 hy with rfl | hy
    ·exact ord_val.le_tr _ _ _ h2 (by have:=ord_val.anti x y;omega)
    ·exact h3 y hy
theorem fold_max (xs:List Val) : ∀x,(xs.foldl (fun m y=>if 0<cmpVal y m then y else m) x=x∨xs.foldl (fun m y=>if 0<cmpVal y m then y else m) x∈xs):=by
 induction xs with
 |nil=>exact fun x=> .inl rfl
 |cons z xs ih =>
  intro x
  rw [List.foldl_cons]
  split
  ·rcases ih z with h | h
   ·exact .inr (by rw [h];simp)
   ·exact .inr (by simp [h])
  ·rcases ih x with h | h
   ·exact .inl h
   ·exact .inr (by simp [h])
theorem pickMin_law {xs:List Val} (h:xs≠ []):pickMin xs∈xs∧ ∀y∈xs,cmpVal (pickMin xs) y≤0:=by
 cases xs with
 |nil=>exact absurd rfl h
 |cons x xs =>
  obtain⟨h1,h2,h3⟩:=fold_min xs x
  refine⟨?_,fun y hy=> ?_⟩
  ·show xs.foldl (fun m y=>if cmpVal y m<0 then y else m) x∈x::xs
   rcases h1 with h | h
   ·rw [h];simp
   ·simp [h]
  ·rcases List.mem_cons.1 hy with rfl | hy
   ·exact h2
   ·exact h3 y hy
theorem pickMax_mem {xs:List Val} (h:xs≠ []):pickMax xs∈xs:=by
 cases xs with
 |nil=>exact absurd rfl h
 |cons x xs =>
  show xs.foldl (fun m y=>if 0<cmpVal y m then y else m) x∈x::xs
  rcases fold_max xs x with h | h
  ·rw [h];simp
  ·simp [h]
def aggVal (kind col:Int) (vss:List (List Val)):Val :=
 if kind=1 then intVal vss.length else
 if kind=2 then sumV (argsC col vss)else
 if argsC col vss = []then nV else
 if kind=3 then pickMin (argsC col vss)else
 if kind=4 then pickMax (argsC col vss)else nV
section
open Classical
variable (proj:List Val→List Val) (aggV:List (List Val)→List Val)
end
def wideHi (S:Int):Int:=S / 18446744073709551616
def wideLo (S:Int):Int:=S % 18446744073709551616
end Go.Proofs.YtombmdaohcjokaaGreatDoor
namespace Go.Proofs.YtombmdaohcjokaaGreatDoor
open Go.RowKit
instance:Inhabited ExprI:=⟨⟨0,0,0,0,nV⟩⟩
instance:Inhabited Val:=⟨nV⟩
def arityE (op:Int):Int:=if op=1∨op=2 then 0 else if op=10∨op=11 then 1 else if 3≤op∧op≤9 then 2 else -1
theorem arityE_le (op:Int) : -1≤arityE op∧arityE op≤2:=by
 unfold arityE
 split
 ·omega
 split
 ·omega
 split <;> omega
def opsE (x:ExprI):List Int:= [x.a,x.b].take (arityE x.op).toNat
theorem opsE_len (x:ExprI):(opsE x).length=(arityE x.op).toNat:=by
 have:=arityE_le x.op
 unfold opsE
 rw [List.length_take]
 simp only [List.length_cons,List.length_nil]
 omega
def boolV (b:Bool):Val:=⟨3,if b=true then 1 else 0,ByteArray.empty⟩
def trueV (v:Val):Bool:=decide (v.kind=3)&&decide (v.n=1)
def arithI (op a b:Int):Int:=if op=3 then a+b else if op=4 then a - b else a*b
def fit64 (z:Int):Prop:= -9223372036854775808≤z∧z≤9223372036854775807
instance (z:Int):Decidable (fit64 z):=by unfold fit64;infer_instance
def arithV (op:Int) (a b:Val):Val:=if a.kind=1∧b.kind=1∧fit64 (arithI op a.n b.n)then intVal (arithI op a.n b.n)else nV
def eqV (a b:Val):Bool:=decide (a.kind≠0)&&decide (b.kind≠0)&&decide (cmpVal a b=0)
def lessV (a b:Val):Bool:=decide (a.kind≠0)&&decide (a.kind=b.kind)&&decide (cmpVal a b<0)
def applyV (x:ExprI) (a b:Val) (row:List Val):Val :=
 if x.op=1 then x.c
 else if x.op=2 then colAt row x.col
 else if 3≤x.op∧x.op≤5 then arithV x.op a b
 else if x.op=6 then boolV (eqV a b)
 else if x.op=7 then boolV (lessV a b)
 else if x.op=8 then boolV (trueV a&&trueV b)
 else if x.op=9 then boolV (trueV a||trueV b)
 else if x.op=10 then boolV (!trueV a)
 else if x.op=11 then boolV (decide (a.kind=0))
 else nV
def legalE (i:Nat) (x:ExprI):Bool:=(opsE x).all fun o=>decide (0≤o)&&decide (o<i)
def argE (done:List Val) (o:Int):Val:=done.getD o.toNat nV
def argsE (x:ExprI) (done:List Val):List Val:=(opsE x).map (argE done)
def stepE (row done:List Val) (x:ExprI):Val:=if legalE done.length x=true then applyV x ((argsE x done).getD 0 nV) ((argsE x done).getD 1 nV) row else nV
def evalAll (es:List ExprI) (row:List Val):Nat→List Val
 |0=> []
 |k+1=>evalAll es row k ++ [stepE row (evalAll es row k) es[k]!]
def evalE (es:List ExprI) (root:Int) (row:List Val):Val:=if 0≤root∧root<es.length then(evalAll es row (root.toNat+1)).getD root.toNat nV else nV
theorem evalAll_len (es:List ExprI) (row:List Val) (k:Nat):(evalAll es row k).length=k:=by
 induction k with
 |zero=>rfl
 |succ k ih=>rw [evalAll,List.length_append,ih];rfl
theorem evalAll_get (es:List ExprI) (row:List Val) (k j:Nat) (h:j<k):(evalAll es row k).getD j nV=stepE row (evalAll es row j) es[j]! := by
 induction k with
 |zero=>omega
 |succ k ih =>
  rw [evalAll,List.getD_eq_getElem?_getD]
  by_cases c:j<k
  ·rw [List.getElem?_append_left (by rw [evalAll_len];exact c),←List.getD_eq_getElem?_getD,ih c]
  ·have e:j=k:=by omega
   subst e
   rw [List.getElem?_append_right (by rw [evalAll_len];exact Nat.le_refl _),evalAll_len,Nat.sub_self]
   rfl
theorem evalE_step (es:List ExprI) (row:List Val) (r:Nat) (h:r<es.length):evalE es r row=stepE row (evalAll es row r) es[r]:=by
 unfold evalE
 rw [if_pos ⟨by omega,by omega⟩,Int.toNat_natCast,evalAll_get es row (r+1) r (by omega),getElem!_pos es r h]
theorem ok_intVal {z:Int} (h:fit64 z):okVal (intVal z):=⟨by simp [intVal],h,by simp [intVal,maxLen]⟩
theorem ok_boolV (b:Bool):okVal (boolV b):=⟨by simp [boolV],by cases b <;> simp [boolV],by simp [boolV,maxLen]⟩
theorem ok_arithV (op:Int) (a b:Val):okVal (arithV op a b):=by
 unfold arithV
 split
 ·rename_i h;exact ok_intVal h.2.2
 ·exact ok_nV
theorem ok_applyV {x:ExprI} {row:List Val} (hc:okVal x.c) (hr : ∀v∈row,okVal v) (a b:Val):okVal (applyV x a b row):=by
 unfold applyV
 split
 ·exact hc
 split
 ·exact ok_colAt hr _
 split
 ·exact ok_arithV _ _ _
 iterate 6 (split;· exact ok_boolV _)
 exact ok_nV
theorem ok_evalAll {es:List ExprI} {row:List Val} (he : ∀x∈es,okVal x.c) (hr : ∀v∈row,okVal v) : ∀(k:Nat),k≤es.length→ ∀v∈evalAll es row k,okVal v:=by
 intro k
 induction k with
 |zero=>intro _ v hv;cases hv
 |succ k ih =>
  intro hk v hv
  rw [evalAll]at hv
  rcases List.mem_append.1 hv with hv | hv
  ·exact ih (by omega) v hv
  ·rw [List.mem_singleton]at hv
   subst hv
   unfold stepE
   split
   ·exact ok_applyV (he _ (by rw [getElem!_pos es k (by omega)];exact List.getElem_mem _)) hr _ _
   ·exact ok_nV
theorem ok_getD {l:List Val} (h : ∀v∈l,okVal v) (j:Nat):okVal (l.getD j nV):=by
 rw [List.getD_eq_getElem?_getD]
 by_cases c:j<l.length
 ·rw [List.getElem?_eq_getElem c];exact h _ (List.getElem_mem c)
 ·rw [List.getElem?_eq_none (by omega)];exact ok_nV
theorem ok_evalE {es:List ExprI} {row:List Val} (he : ∀x∈es,okVal x.c) (hr : ∀v∈row,okVal v) (root:Int):okVal (evalE es root row):=by
 unfold evalE
 split
 ·exact ok_getD (ok_evalAll he hr _ (by omega)) _
 ·exact ok_nV
def fitV (v:Val):Prop:=v.s.size≤1048576
theorem fit_nV:fitV nV:=Nat.zero_le _
theorem fit_applyV {x:ExprI} {row:List Val} (hc:fitV x.c) (hr : ∀v∈row,fitV v) (a b:Val):fitV (applyV x a b row):=by
 have hb : ∀b:Bool,fitV (boolV b):=fun b=>Nat.zero_le _
 unfold applyV
 split
 ·exact hc
 split
 ·unfold colAt
  split
  ·rename_i h
   have hlt:x.col.toNat<row.length:=by omega
   rw [List.getD_eq_getElem?_getD,List.getElem?_eq_getElem hlt]
   exact hr _ (List.getElem_mem _)
  ·exact fit_nV
 split
 ·unfold arithV;split
  ·exact Nat.zero_le _
  ·exact fit_nV
 iterate 6 (split;· exact hb _)
 exact fit_nV
theorem fit_evalE {es:List ExprI} {row:List Val} (he : ∀x∈es,fitV x.c) (hr : ∀v∈row,fitV v) (root:Int):fitV (evalE es root row):=by
 by_cases h:0≤root∧root<es.length
 ·obtain⟨r,rfl⟩ : ∃r:Nat,root=r:=⟨root.toNat,by omega⟩
  have hr2:r<es.length:=by omega
  rw [evalE_step es row r hr2]
  unfold stepE
  split
  ·exact fit_applyV (he _ (List.getElem_mem _)) hr _ _
  ·exact fit_nV
 ·unfold evalE
  rw [if_neg h]
  exact fit_nV
end Go.Proofs.YtombmdaohcjokaaGreatDoor
namespace Go.Proofs.YtombmdaohcjokaaGreatDoor
open Go.RowKit
set_option maxHeartbeats 1000000 in
theorem arity_any (op:Int) (w:World):Calls Tryz.prog 223 #[.int .i64 op] w fun e w'=>e = .returned (.int .i64 (arityE op))∧w=w':=by
 by_cases h:1≤op∧op≤11
 ·have h2:op=1∨op=2∨op=3∨op=4∨op=5∨op=6∨op=7∨op=8∨op=9∨op=10∨op=11:=by omega
  clear h
  rcases h2 with rfl | rfl | rfl | rfl | rfl | rfl | rfl | rfl | rfl | rfl | rfl
  all_goals
   go_enter Tryz.func223,Tryz.ntmps223
   go_wp2_with fail
   go_ret
   exact⟨rfl,rfl⟩
 ·have b1:(op==1)=false:=by simp;omega
  have b2:(op==2)=false:=by simp;omega
  have b3:(op==3)=false:=by simp;omega
  have b4:(op==4)=false:=by simp;omega
  have b5:(op==5)=false:=by simp;omega
  have b6:(op==6)=false:=by simp;omega
  have b7:(op==7)=false:=by simp;omega
  have b8:(op==8)=false:=by simp;omega
  have b9:(op==9)=false:=by simp;omega
  have b10:(op==10)=false:=by simp;omega
  have b11:(op==11)=false:=by simp;omega
  have ha:arityE op = -1:=by
   unfold arityE
   rw [if_neg (by omega),if_neg (by omega),if_neg (by omega)]
  rw [ha]
  clear h ha
  go_enter Tryz.func223,Tryz.ntmps223
  go_wp2_with fail
  go_ret
  exact⟨rfl,rfl⟩
set_option maxHeartbeats 1000000 in
theorem legal_any (i o:Int) (w:World):Calls Tryz.prog 178 #[.int .i64 i,.int .i64 o] w fun e w'=>e = .returned (.bool (decide (0≤o)&&decide (o<i)))∧w=w':=by
 by_cases h0:0≤o
 ·have d0:decide (0≤o)=true:=decide_eq_true h0
  rw [d0,Bool.true_and]
  go_enter Tryz.func178,Tryz.ntmps178
  go_wp2_with fail
  go_ret
  exact⟨rfl,rfl⟩
 ·have d0:decide (0≤o)=false:=decide_eq_false h0
  rw [d0,Bool.false_and]
  clear h0
  go_enter Tryz.func178,Tryz.ntmps178
  go_wp2_with fail
  go_ret
  exact⟨rfl,rfl⟩
set_option maxHeartbeats 1000000 in
theorem boolean_any (b:Bool) (w:World):Calls Tryz.prog 225 #[.bool b] w fun e w'=>e = .returned (valV (boolV b))∧Ext w w':=by
 cases b
 ·go_enter Tryz.func225,Tryz.ntmps225
  go_wp2_with fail
  exact bodyPost_ret (v:=valV (boolV false)) (by simp [results,Tryz.results225,go_sem,valV,boolV];rfl) rfl ⟨rfl,(Ext.refl w).alloc _⟩
 ·go_enter Tryz.func225,Tryz.ntmps225
  go_wp2_with fail
  exact bodyPost_ret (v:=valV (boolV true)) (by simp [results,Tryz.results225,go_sem,valV,boolV];rfl) rfl ⟨rfl,(Ext.refl w).alloc _⟩
set_option maxHeartbeats 1000000 in
theorem isTrue_any (v:Val) (w:World):Calls Tryz.prog 226 #[valV v] w fun e w'=>e = .returned (.bool (trueV v))∧Ext w w':=by
 obtain⟨k,n,s⟩:=v
 unfold trueV valV
 dsimp only
 by_cases h:k=3
 ·subst h
  have d:decide ((3:Int)=3)=true:=rfl
  have e:(n==1)=decide (n=1):=by rw [Bool.eq_iff_iff];simp
  have HE:=Lib.hid e
  rw [d,Bool.true_and]
  clear d e
  go_enter Tryz.func226,Tryz.ntmps226
  go_wp2_with fail
  go_ret
  exact⟨ret_bool HE.out,(Ext.refl w).alloc _⟩
 ·have b:(k==3)=false:=by simp [h]
  have d:decide (k=3)=false:=decide_eq_false h
  rw [d,Bool.false_and]
  clear d h
  go_enter Tryz.func226,Tryz.ntmps226
  go_wp2_with fail
  go_ret
  exact⟨rfl,(Ext.refl w).alloc _⟩
theorem mag_neg {a:Int} (h:a<0) (h0 : -9223372036854775808≤a):IntKind.u64.wrap (-IntKind.u64.wrap a)=(a.natAbs:Int):=by
 rw [IntKind.wrap_u64,IntKind.wrap_u64];omega
theorem mag_pos {a:Int} (h:0≤a) (h1:a≤9223372036854775807):IntKind.u64.wrap a=(a.natAbs:Int):=by
 rw [IntKind.wrap_u64];omega
set_option maxHeartbeats 1000000 in
theorem magnitude_any (a:Int) (ha:fit64 a) (w:World):Calls Tryz.prog 303 #[.int .i64 a] w fun e w'=>e = .returned (.int .u64 (a.natAbs:Int))∧w=w':=by
 unfold fit64 at ha
 by_cases h:a<0
 ·have HM:=Lib.hid (mag_neg h ha.1)
  have d:decide (a<0)=true:=decide_eq_true h
  clear h ha
  go_enter Tryz.func303,Tryz.ntmps303
  go_wp2_with fail
  go_ret
  exact⟨ret_int HM.out,rfl⟩
 ·have HM:=Lib.hid (mag_pos (by omega) ha.2)
  have d:decide (a<0)=false:=decide_eq_false h
  clear h ha
  go_enter Tryz.func303,Tryz.ntmps303
  go_wp2_with fail
  go_ret
  exact⟨ret_int HM.out,rfl⟩
theorem mul_same {a b:Int} (h:decide (a<0)=decide (b<0)):a*b=((a.natAbs*b.natAbs:Nat):Int):=by
 rw [Int.natCast_mul]
 by_cases h1:a<0
 ·have h2:b<0:=by simpa [h1] using h
  rw [show (a.natAbs:Int) = -a by omega,show (b.natAbs:Int) = -b by omega,Int.neg_mul_neg]
 ·have h2 : ¬b<0:=by simpa [h1] using h
  rw [show (a.natAbs:Int)=a by omega,show (b.natAbs:Int)=b by omega]
theorem mul_other {a b:Int} (h:decide (a<0)≠decide (b<0)):a*b = -((a.natAbs*b.natAbs:Nat):Int):=by
 rw [Int.natCast_mul]
 by_cases h1:a<0
 ·have h2 : ¬b<0:=by simpa [h1] using h
  rw [show (a.natAbs:Int) = -a by omega,show (b.natAbs:Int)=b by omega,Int.neg_mul,Int.neg_neg]
 ·have h2:b<0:=by simpa [h1] using h
  rw [show (a.natAbs:Int)=a by omega,show (b.natAbs:Int) = -b by omega,Int.mul_neg,Int.neg_neg]
def MulRes (z:Int) (e:Ending):Prop:= ∃n,e = .returned (.tuple #[.int .i64 n,.bool (decide (fit64 z))])∧(fit64 z→n=z)
theorem mulRes_mk {z n:Int} {b:Bool} {e:Ending} (he:e = .returned (.tuple #[.int .i64 n,.bool b])) (hb:b=true↔fit64 z) (hn:fit64 z→n=z):MulRes z e:=by
 refine⟨n,?_,hn⟩
 rw [he]
 have:b=decide (fit64 z):=by rw [Bool.eq_iff_iff,hb,decide_eq_true_eq]
 rw [this]
end Go.Proofs.YtombmdaohcjokaaGreatDoor
namespace Go.Proofs.YtombmdaohcjokaaGreatDoor
open Go.RowKit
theorem mul_fit_same {a b:Int} {hi lo:Nat} (h:decide (a<0)=decide (b<0)) (hp:a.natAbs*b.natAbs=hi*18446744073709551616+lo) (hl:lo<18446744073709551616) :
  (fit64 (a*b)↔hi=0∧lo≤9223372036854775807)∧(fit64 (a*b)→IntKind.i64.wrap (lo:Int)=a*b):=by
 rw [mul_same h,hp]
 unfold fit64
 refine⟨by omega,fun g=> ?_⟩
 rw [IntKind.wrap_i64]
 omega
theorem mul_fit_other {a b:Int} {hi lo:Nat} (h:decide (a<0)≠decide (b<0)) (hp:a.natAbs*b.natAbs=hi*18446744073709551616+lo) (hl:lo<18446744073709551616) :
  (fit64 (a*b)↔hi=0∧lo≤9223372036854775808)∧(fit64 (a*b)→IntKind.i64.wrap (-IntKind.i64.wrap (lo:Int))=a*b):=by
 rw [mul_other h,hp]
 unfold fit64
 refine⟨by omega,fun g=> ?_⟩
 rw [IntKind.wrap_i64,IntKind.wrap_i64]
 omega
theorem fin_same {a b:Int} {hi lo:Nat} {t:Bool} (h:decide (a<0)=decide (b<0)) (hp:a.natAbs*b.natAbs=hi*18446744073709551616+lo) (hl:lo<18446744073709551616) (ht:t=true↔hi=0∧lo≤9223372036854775807) :
 MulRes (a*b) (.returned (.tuple #[.int .i64 (wrap64 (lo:Int)),.bool t])):=mulRes_mk rfl (ht.trans (mul_fit_same h hp hl).1.symm) fun g=>by have h2:=(mul_fit_same h hp hl).2 g;rw [IntKind.wrap_i64]at h2;unfold wrap64;exact h2
theorem fin_other {a b:Int} {hi lo:Nat} {t:Bool} (h:decide (a<0)≠decide (b<0)) (hp:a.natAbs*b.natAbs=hi*18446744073709551616+lo) (hl:lo<18446744073709551616) (ht:t=true↔hi=0∧lo≤9223372036854775808) :
 MulRes (a*b) (.returned (.tuple #[.int .i64 (wrap64 (-wrap64 (lo:Int))),.bool t])):=mulRes_mk rfl (ht.trans (mul_fit_other h hp hl).1.symm) fun g=>by have h2:=(mul_fit_other h hp hl).2 g;rw [IntKind.wrap_i64,IntKind.wrap_i64]at h2;unfold wrap64;exact h2
theorem iff_yes {p:Prop} (h:p):(true=true)↔p:=⟨fun _=>h,fun _=>rfl⟩
theorem iff_no {p:Prop} (h : ¬p):(false=true)↔p:=⟨fun g=>(by cases g),fun g=>absurd g h⟩
set_option maxRecDepth 100000 in
set_option maxHeartbeats 4000000 in
theorem multiply_any (a b:Int) (ha:fit64 a) (hb:fit64 b) (w:World):Calls Tryz.prog 262 #[.int .i64 a,.int .i64 b] w fun e w'=>MulRes (a*b) e∧w=w':=by
 have HA:=Lib.hid ha
 have HB:=Lib.hid hb
 have hna:a.natAbs<18446744073709551616:=by unfold fit64 at ha;omega
 have hnb:b.natAbs<18446744073709551616:=by unfold fit64 at hb;omega
 have HN:=Lib.hid (And.intro hna hnb)
 obtain⟨hi,hhi⟩ : ∃x,a.natAbs*b.natAbs / 18446744073709551616=x:=⟨_,rfl⟩
 obtain⟨lo,hlo⟩ : ∃x,a.natAbs*b.natAbs % 18446744073709551616=x:=⟨_,rfl⟩
 have hp:a.natAbs*b.natAbs=hi*18446744073709551616+lo:=by omega
 have hl:lo<18446744073709551616:=by omega
 have HHI:=Lib.hid (And.intro hhi hlo)
 have HP:=Lib.hid hp
 have HL:=Lib.hid hl
 obtain⟨P,hP⟩ : ∃P,P=fit64 (a*b):=⟨_,rfl⟩
 clear ha hb hna hnb hhi hlo hp hP
 by_cases h1:a<0
 all_goals by_cases h2:b<0
 all_goals by_cases h3:hi=0
 all_goals by_cases h4:lo≤9223372036854775807
 all_goals by_cases h5:lo≤9223372036854775808
 all_goals
  first |(exfalso;omega) | skip
 all_goals
  have d1:decide (a<0)=decide (a<0):=rfl
  first
   |(replace d1:decide (a<0)=true:=decide_eq_true h1)
   |(replace d1:decide (a<0)=false:=decide_eq_false h1)
  have d2:decide (b<0)=decide (b<0):=rfl
  first
   |(replace d2:decide (b<0)=true:=decide_eq_true h2)
   |(replace d2:decide (b<0)=false:=decide_eq_false h2)
  have d3:((hi:Int)==0)=((hi:Int)==0):=rfl
  first
   |(replace d3:((hi:Int)==0)=true:=by simp;omega)
   |(replace d3:((hi:Int)==0)=false:=by simp;omega)
  have d4:decide ((lo:Int)≤9223372036854775807)=decide ((lo:Int)≤9223372036854775807):=rfl
  first
   |(replace d4:decide ((lo:Int)≤9223372036854775807)=true:=by simp;omega)
   |(replace d4:decide ((lo:Int)≤9223372036854775807)=false:=by simp;omega)
  have d5:decide ((lo:Int)≤9223372036854775808)=decide ((lo:Int)≤9223372036854775808):=rfl
  first
   |(replace d5:decide ((lo:Int)≤9223372036854775808)=true:=by simp;omega)
   |(replace d5:decide ((lo:Int)≤9223372036854775808)=false:=by simp;omega)
  have H:=Lib.hid (And.intro h1 (And.intro h2 (And.intro h3 (And.intro h4 h5))))
  clear h1 h2 h3 h4 h5
  go_enter Tryz.func262,Tryz.ntmps262
  go_wp2_with fail
  refine(magnitude_any a HA.out _).mono ?_
  rintro e w1 ⟨rfl,rfl⟩
  go_wp2_with fail
  refine(magnitude_any b HB.out _).mono ?_
  rintro e w1 ⟨rfl,rfl⟩
  go_wp2_with fail
  refine(Tryz.bits_Mul64 a.natAbs b.natAbs HN.out.1 HN.out.2 _).mono ?_
  rintro e w1 ⟨rfl,rfl⟩
  rw [HHI.out.1,HHI.out.2]
  go_wp2_with fail
  go_ret2
  obtain⟨h1,h2,h3,h4,h5⟩:=H.out
  first
   |exact⟨fin_same (d1.trans d2.symm) HP.out HL.out (iff_yes ⟨h3,h4⟩),rfl⟩
   |exact⟨fin_same (d1.trans d2.symm) HP.out HL.out (iff_no (fun g=>h3 g.1)),rfl⟩
   |exact⟨fin_same (d1.trans d2.symm) HP.out HL.out (iff_no (fun g=>h4 g.2)),rfl⟩
   |exact⟨fin_other (by rw [d1,d2];decide) HP.out HL.out (iff_yes ⟨h3,h5⟩),rfl⟩
   |exact⟨fin_other (by rw [d1,d2];decide) HP.out HL.out (iff_no (fun g=>h3 g.1)),rfl⟩
   |exact⟨fin_other (by rw [d1,d2];decide) HP.out HL.out (iff_no (fun g=>h5 g.2)),rfl⟩
end Go.Proofs.YtombmdaohcjokaaGreatDoor
namespace Go.Proofs.YtombmdaohcjokaaGreatDoor
open Go.RowKit
theorem arith_yes {op:Int} {a b:Val} (h1:a.kind=1) (h2:b.kind=1) (h:fit64 (arithI op a.n b.n)):arithV op a b=intVal (arithI op a.n b.n):=if_pos ⟨h1,h2,h⟩
theorem arith_no {op:Int} {a b:Val} (h : ¬(a.kind=1∧b.kind=1∧fit64 (arithI op a.n b.n))):arithV op a b=nV:=if_neg h
set_option maxRecDepth 100000 in
set_option maxHeartbeats 4000000 in
theorem arithmetic_add (a b:Val) (h1:a.kind=1) (h2:b.kind=1) (ha:okVal a) (hb:okVal b) (w:World):Calls Tryz.prog 224 #[.int .i64 3,valV a,valV b] w fun e w'=>e = .returned (valV (arithV 3 a b))∧Ext w w':=by
 have HY:=Lib.hid (arith_yes (op:=3) h1 h2)
 have HN:=Lib.hid (arith_no (op:=3) (a:=a) (b:=b))
 obtain⟨ak,an,sa⟩:=a
 obtain⟨bk,bn,sb⟩:=b
 dsimp only at h1 h2
 subst h1 h2
 obtain⟨z,hz⟩ : ∃z,arithV 3 ⟨1,an,sa⟩ ⟨1,bn,sb⟩=z:=⟨_,rfl⟩
 rw [hz]at HY HN ⊢
 have hra:=ha.2.1
 have hrb:=hb.2.1
 dsimp only at hra hrb
 have hsum:arithI 3 an bn=an+bn:=rfl
 unfold valV
 dsimp only
 clear hz ha hb
 by_cases hf:fit64 (an+bn)
 ·have h3:=HY.out (by rw [hsum];exact hf)
  rw [hsum]at h3
  subst h3
  unfold fit64 at hf
  obtain⟨f1,f2⟩:=hf
  clear HY HN hsum
  rcases Int.lt_trichotomy bn 0 with h | h | h
  ·have d1:decide (0<bn)=false:=by simp;omega
   have d2:decide (an<an+bn)=false:=by simp;omega
   clear hra hrb h
   go_enter Tryz.func224,Tryz.ntmps224
   go_wp2_with fail
   exact bodyPost_ret (v:=valV (intVal (an+bn))) (by simp [results,Tryz.results224,go_sem,valV,intVal];rfl) rfl ⟨rfl,(((Ext.refl w).alloc _).alloc _).alloc _⟩
  ·subst h
   clear hra hrb
   go_enter Tryz.func224,Tryz.ntmps224
   go_wp2_with fail
   exact bodyPost_ret (v:=valV (intVal (an+0))) (by simp [results,Tryz.results224,go_sem,valV,intVal];rfl) rfl ⟨rfl,(((Ext.refl w).alloc _).alloc _).alloc _⟩
  ·have d1:decide (0<bn)=true:=by simp;omega
   have d2:decide (an<an+bn)=true:=by simp;omega
   clear hra hrb h
   go_enter Tryz.func224,Tryz.ntmps224
   go_wp2_with fail
   exact bodyPost_ret (v:=valV (intVal (an+bn))) (by simp [results,Tryz.results224,go_sem,valV,intVal];rfl) rfl ⟨rfl,(((Ext.refl w).alloc _).alloc _).alloc _⟩
 ·have h3:=HN.out (by rintro⟨_,_,g⟩;rw [hsum]at g;exact hf g)
  subst h3
  unfold fit64 at hf
  obtain⟨n,hn⟩ : ∃n,IntKind.i64.wrap (an+bn)=n:=⟨_,rfl⟩
  have hn2:=hn
  rw [IntKind.wrap_i64]at hn2
  clear HY HN hsum
  rcases(show 0<bn∨bn≤0 by omega)with h | h
  ·have d1:decide (0<bn)=true:=by simp;omega
   have d2:decide (an<n)=false:=by simp;omega
   have d3:(bn==0)=false:=by simp;omega
   clear hra hrb h hf hn2
   go_enter Tryz.func224,Tryz.ntmps224
   go_wp2_with fail
   exact bodyPost_ret (v:=valV nV) (by simp [results,Tryz.results224,go_sem,valV,nV];rfl) rfl ⟨rfl,(((Ext.refl w).alloc _).alloc _).alloc _⟩
  ·have d1:decide (0<bn)=false:=by simp;omega
   have d2:decide (an<n)=true:=by simp;omega
   have d3:(bn==0)=false:=by simp;omega
   clear hra hrb h hf hn2
   go_enter Tryz.func224,Tryz.ntmps224
   go_wp2_with fail
   exact bodyPost_ret (v:=valV nV) (by simp [results,Tryz.results224,go_sem,valV,nV];rfl) rfl ⟨rfl,(((Ext.refl w).alloc _).alloc _).alloc _⟩
set_option maxRecDepth 100000 in
set_option maxHeartbeats 4000000 in
theorem arithmetic_sub (a b:Val) (h1:a.kind=1) (h2:b.kind=1) (ha:okVal a) (hb:okVal b) (w:World):Calls Tryz.prog 224 #[.int .i64 4,valV a,valV b] w fun e w'=>e = .returned (valV (arithV 4 a b))∧Ext w w':=by
 have HY:=Lib.hid (arith_yes (op:=4) h1 h2)
 have HN:=Lib.hid (arith_no (op:=4) (a:=a) (b:=b))
 obtain⟨ak,an,sa⟩:=a
 obtain⟨bk,bn,sb⟩:=b
 dsimp only at h1 h2
 subst h1 h2
 obtain⟨z,hz⟩ : ∃z,arithV 4 ⟨1,an,sa⟩ ⟨1,bn,sb⟩=z:=⟨_,rfl⟩
 rw [hz]at HY HN ⊢
 have hra:=ha.2.1
 have hrb:=hb.2.1
 dsimp only at hra hrb
 have hsum:arithI 4 an bn=an - bn:=rfl
 unfold valV
 dsimp only
 clear hz ha hb
 by_cases hf:fit64 (an - bn)
 ·have h3:=HY.out (by rw [hsum];exact hf)
  rw [hsum]at h3
  subst h3
  unfold fit64 at hf
  obtain⟨f1,f2⟩:=hf
  clear HY HN hsum
  rcases Int.lt_trichotomy bn 0 with h | h | h
  ·have d1:decide (0<bn)=false:=by simp;omega
   have d2:decide (an - bn<an)=false:=by simp;omega
   clear hra hrb h
   go_enter Tryz.func224,Tryz.ntmps224
   go_wp2_with fail
   exact bodyPost_ret (v:=valV (intVal (an - bn))) (by simp [results,Tryz.results224,go_sem,valV,intVal];rfl) rfl ⟨rfl,(((Ext.refl w).alloc _).alloc _).alloc _⟩
  ·subst h
   clear hra hrb
   go_enter Tryz.func224,Tryz.ntmps224
   go_wp2_with fail
   exact bodyPost_ret (v:=valV (intVal (an - 0))) (by simp [results,Tryz.results224,go_sem,valV,intVal];rfl) rfl ⟨rfl,(((Ext.refl w).alloc _).alloc _).alloc _⟩
  ·have d1:decide (0<bn)=true:=by simp;omega
   have d2:decide (an - bn<an)=true:=by simp;omega
   clear hra hrb h
   go_enter Tryz.func224,Tryz.ntmps224
   go_wp2_with fail
   exact bodyPost_ret (v:=valV (intVal (an - bn))) (by simp [results,Tryz.results224,go_sem,valV,intVal];rfl) rfl ⟨rfl,(((Ext.refl w).alloc _).alloc _).alloc _⟩
 ·have h3:=HN.out (by rintro⟨_,_,g⟩;rw [hsum]at g;exact hf g)
  subst h3
  unfold fit64 at hf
  obtain⟨n,hn⟩ : ∃n,IntKind.i64.wrap (an - bn)=n:=⟨_,rfl⟩
  have hn2:=hn
  rw [IntKind.wrap_i64]at hn2
  clear HY HN hsum
  rcases(show 0<bn∨bn≤0 by omega)with h | h
  ·have d1:decide (0<bn)=true:=by simp;omega
   have d2:decide (n<an)=false:=by simp;omega
   have d3:(bn==0)=false:=by simp;omega
   clear hra hrb h hf hn2
   go_enter Tryz.func224,Tryz.ntmps224
   go_wp2_with fail
   exact bodyPost_ret (v:=valV nV) (by simp [results,Tryz.results224,go_sem,valV,nV];rfl) rfl ⟨rfl,(((Ext.refl w).alloc _).alloc _).alloc _⟩
  ·have d1:decide (0<bn)=false:=by simp;omega
   have d2:decide (n<an)=true:=by simp;omega
   have d3:(bn==0)=false:=by simp;omega
   clear hra hrb h hf hn2
   go_enter Tryz.func224,Tryz.ntmps224
   go_wp2_with fail
   exact bodyPost_ret (v:=valV nV) (by simp [results,Tryz.results224,go_sem,valV,nV];rfl) rfl ⟨rfl,(((Ext.refl w).alloc _).alloc _).alloc _⟩
set_option maxRecDepth 100000 in
set_option maxHeartbeats 4000000 in
theorem arithmetic_mul (a b:Val) (h1:a.kind=1) (h2:b.kind=1) (ha:okVal a) (hb:okVal b) (w:World):Calls Tryz.prog 224 #[.int .i64 5,valV a,valV b] w fun e w'=>e = .returned (valV (arithV 5 a b))∧Ext w w':=by
 have HY:=Lib.hid (arith_yes (op:=5) h1 h2)
 have HN:=Lib.hid (arith_no (op:=5) (a:=a) (b:=b))
 have HA:=Lib.hid (show fit64 a.n from ha.2.1)
 have HB:=Lib.hid (show fit64 b.n from hb.2.1)
 obtain⟨ak,an,sa⟩:=a
 obtain⟨bk,bn,sb⟩:=b
 dsimp only at h1 h2 HA HB
 subst h1 h2
 obtain⟨z,hz⟩ : ∃z,arithV 5 ⟨1,an,sa⟩ ⟨1,bn,sb⟩=z:=⟨_,rfl⟩
 rw [hz]at HY HN ⊢
 have hsum:arithI 5 an bn=an*bn:=rfl
 have HS:=Lib.hid hsum
 unfold valV
 dsimp only
 clear hz ha hb hsum
 go_enter Tryz.func224,Tryz.ntmps224
 go_wp2_with fail
 refine(multiply_any an bn HA.out HB.out _).mono ?_
 rintro e w1 ⟨⟨n,rfl,hn⟩,rfl⟩
 by_cases hf:fit64 (an*bn)
 ·have h3:=HY.out (by rw [HS.out];exact hf)
  have hn2:=hn hf
  have hd:decide (fit64 (an*bn))=true:=decide_eq_true hf
  rw [hd]
  rw [HS.out,←hn2]at h3
  subst h3
  clear HY HN HS hn hf hn2 hd
  go_wp2_with fail
  exact bodyPost_ret (v:=valV (intVal n)) (by simp [results,Tryz.results224,go_sem,valV,intVal];rfl) rfl ⟨rfl,(((Ext.refl w).alloc _).alloc _).alloc _⟩
 ·have h3:=HN.out (by rintro⟨_,_,g⟩;rw [HS.out]at g;exact hf g)
  have hd:decide (fit64 (an*bn))=false:=decide_eq_false hf
  rw [hd]
  subst h3
  clear HY HN HS hn hf hd
  go_wp2_with fail
  exact bodyPost_ret (v:=valV nV) (by simp [results,Tryz.results224,go_sem,valV,nV];rfl) rfl ⟨rfl,(((Ext.refl w).alloc _).alloc _).alloc _⟩
set_option maxRecDepth 100000 in
set_option maxHeartbeats 4000000 in
theorem arithmetic_any (op:Int) (hop:op=3∨op=4∨op=5) (a b:Val) (ha:okVal a) (hb:okVal b) (w:World):Calls Tryz.prog 224 #[.int .i64 op,valV a,valV b] w fun e w'=>e = .returned (valV (arithV op a b))∧Ext w w':=by
 by_cases h1:a.kind=1
 ·by_cases h2:b.kind=1
  ·rcases hop with rfl | rfl | rfl
   ·exact arithmetic_add a b h1 h2 ha hb w
   ·exact arithmetic_sub a b h1 h2 ha hb w
   ·exact arithmetic_mul a b h1 h2 ha hb w
  ·have h3:arithV op a b=nV:=arith_no fun g=>h2 g.2.1
   rw [h3]
   obtain⟨ak,an,sa⟩:=a
   obtain⟨bk,bn,sb⟩:=b
   dsimp only at h1 h2
   subst h1
   have d:(bk != 1)=true:=by simp [h2]
   unfold valV
   dsimp only
   clear h2 h3 ha hb hop
   go_enter Tryz.func224,Tryz.ntmps224
   go_wp2_with fail
   exact bodyPost_ret (v:=valV nV) (by simp [results,Tryz.results224,go_sem,valV,nV];rfl) rfl ⟨rfl,(((Ext.refl w).alloc _).alloc _).alloc _⟩
 ·have h3:arithV op a b=nV:=arith_no fun g=>h1 g.1
  rw [h3]
  obtain⟨ak,an,sa⟩:=a
  obtain⟨bk,bn,sb⟩:=b
  dsimp only at h1
  have d:(ak != 1)=true:=by simp [h1]
  unfold valV
  dsimp only
  clear h1 h3 ha hb hop
  go_enter Tryz.func224,Tryz.ntmps224
  go_wp2_with fail
  exact bodyPost_ret (v:=valV nV) (by simp [results,Tryz.results224,go_sem,valV,nV];rfl) rfl ⟨rfl,(((Ext.refl w).alloc _).alloc _).alloc _⟩
end Go.Proofs.YtombmdaohcjokaaGreatDoor
namespace Go.Proofs.YtombmdaohcjokaaGreatDoor
open Go.RowKit
theorem applyV_arith {x:ExprI} (h:x.op=3∨x.op=4∨x.op=5) (a b:Val) (row:List Val):applyV x a b row=arithV x.op a b:=by
 unfold applyV
 rw [if_neg (by omega),if_neg (by omega),if_pos (by omega)]
theorem wp_tail {P:Program} {id:Nat} {Q:Exit→Act→World→Prop} {a:Act} {w:World} {l:List Oper} (n:Nat) (hm:P.follows .mixedOrders=true) (hB:Region.lexTailB .any l.toArray n=true) (w2:World) (hw:w2=w.drew)
  (h:wpStill P l.toArray w2 (fun a'=>wpList P l.toArray Q (l.drop n) a' w2) (l.take n) a):(Code.region id l.toArray true).wp P Q a w:=by
 subst hw
 exact wp_region_still_tail n hm hB h
theorem still_of_quiet {P:Program} {w:World} {o:Oper} {a:Act} {K:Act→Prop} {v:Value} (h:o.quietAt P a (fun x=>x=w) w v) (hk:K (a.put o.dst v)):o.still P a w K:=by
 unfold Oper.still
 unfold Oper.quietAt at h
 generalize (execOp a.eval o).run P w=r at h ⊢
 cases r with
 |ok n w' =>
  cases n with
  |value x=>obtain⟨h1,rfl⟩:=h;exact⟨h1,hk⟩
  |skip=>obtain⟨h1,rfl⟩:=h;exact⟨h1,hk⟩
  |enter f args=>obtain⟨h1,h2⟩:=h;exact⟨h1,v,h2,hk⟩
  |_=>exact h.elim
 |_=>exact h.elim
theorem wpStill_of_quiet {P:Program} {ops:Array Oper} {w:World} {Q:Act→Prop} : ∀(l:List Oper) (a:Act),wpQuiet P ops (fun x=>x=w) Q l a→wpStill P ops w Q l a:=by
 intro l
 induction l with
 |nil=>exact fun a h=>h
 |cons o l ih =>
  intro a h
  unfold wpQuiet at h
  unfold wpStill
  split at h
  ·rename_i hw
   rw [if_pos hw]
   obtain⟨v,h1,h2⟩:=h
   exact still_of_quiet (h1 w rfl) (ih _ h2)
  ·rename_i hw
   rw [if_neg hw]
   exact ih _ h
theorem wp_tailQ {P:Program} {id:Nat} {Q:Exit→Act→World→Prop} {a:Act} {w:World} {l:List Oper} (n:Nat) (hm:P.follows .mixedOrders=true) (hB:Region.lexTailB .any l.toArray n=true) (w2:World) (hw:w2=w.drew)
  (h:wpQuiet P l.toArray (fun x=>x=w2) (fun a'=>wpList P l.toArray Q (l.drop n) a' w2) (l.take n) a):(Code.region id l.toArray true).wp P Q a w :=
 wp_tail n hm hB w2 hw (wpStill_of_quiet _ _ h)
set_option maxRecDepth 100000 in
set_option maxHeartbeats 4000000 in
theorem apply_arith3 (x:ExprI) (hop:x.op=3) (va:Value) (a b:Val) (vr:Value) (row:List Val) (w:World) (ha:SliceOf Rep.val w.cell? va [a,b]) :
  Calls Tryz.prog 179 #[.agg (exprEnc x).toArray,va,vr] w fun e w'=>e = .returned (valV (applyV x a b row))∧Ext w w':=by
 rw [applyV_arith (by omega)]
 have hok:=vals_ok ha
 have oka:=Lib.hid (hok a (by simp))
 have okb:=Lib.hid (hok b (by simp))
 obtain⟨p,cap,rfl,_,_,hp⟩:=ha.form
 obtain⟨bb,o,rfl⟩:=hp (by decide) (by simp)
 obtain⟨c0,c1,c2,_⟩:=val_cells ha 0 (by simp)
 obtain⟨c3,c4,c5,_⟩:=val_cells ha 1 (by simp)
 simp only [Nat.zero_mul,Nat.one_mul,Nat.add_zero,List.getElem_cons_zero,List.getElem_cons_succ]at c0 c1 c2 c3 c4 c5
 obtain⟨op,xa,xb,col,⟨ck,cn,cs⟩⟩:=x
 dsimp only at hop ⊢
 obtain⟨z,hz⟩ : ∃z,arithV op a b=z:=⟨_,rfl⟩
 have HZ:=Lib.hid hz
 subst hop
 rw [hz]
 obtain⟨ak,an,sa⟩:=a
 obtain⟨bk,bn,sb⟩:=b
 dsimp only at c0 c1 c2 c3 c4 c5
 have e0:=cell_lt c0
 unfold exprEnc
 dsimp only
 have hl:([⟨ak,an,sa⟩,⟨bk,bn,sb⟩]:List Val).length=2:=rfl
 rw [hl]
 clear hok ha hp hz hl
 go_enter Tryz.func179,Tryz.ntmps179
 go_wp2_with fail
 refine wp_tail 8 (by kernel_rfl) (by kernel_rfl) _ rfl ?_
 simp only [List.take_succ_cons,List.take_zero,List.drop_succ_cons,List.drop_zero]
 repeat still_step
 refine wpStill_nil ?_
 go_wp2_with fail
 refine(arithmetic_any 3 (by decide) _ _ oka.out okb.out _).mono ?_
 rintro e w1 ⟨rfl,x1⟩
 rw [HZ.out]
 have d0:w1.cell? ⟨w.heap.size+1,0,none⟩=some (.int .i64 0):=x1.at (by go_simp)
 have d1:w1.cell? ⟨w.heap.size+1,1,none⟩=some (.int .i64 0):=x1.at (by go_simp)
 have d2:w1.cell? ⟨w.heap.size+1,2,none⟩=some (.string ByteArray.empty):=x1.at (by go_simp;rfl)
 have f0:w1.frozen? ⟨w.heap.size+1,0,none⟩=false:=x1.unfrozen (p:=⟨w.heap.size+1,0,none⟩) (v:= .int .i64 0) (by go_simp) (by go_simp)
 have f1:w1.frozen? ⟨w.heap.size+1,1,none⟩=false:=x1.unfrozen (p:=⟨w.heap.size+1,1,none⟩) (v:= .int .i64 0) (by go_simp) (by go_simp)
 have f2:w1.frozen? ⟨w.heap.size+1,2,none⟩=false:=x1.unfrozen (p:=⟨w.heap.size+1,2,none⟩) (v:= .string ByteArray.empty) (by go_simp;rfl) (by go_simp)
 have X1:=Lib.hid ((((Ext.refl w).alloc _).alloc _).drew.trans x1)
 have e1:=cell_lt d0
 obtain⟨zk,zn,zs⟩:=z
 clear HZ x1 oka okb c0 c1 c2 c3 c4 c5 e0
 unfold valV
 dsimp only
 go_wp2_with fail
 exact bodyPost_ret (v:= .agg #[.int .i64 zk,.int .i64 zn,.string zs]) (by simp [results,Tryz.results179,go_sem,d0,d1,d2]) rfl ⟨rfl,Below.setCell (Below.setCell (Below.setCell X1.out (by simp) _) (by simp) _) (by simp) _⟩
set_option maxRecDepth 100000 in
set_option maxHeartbeats 4000000 in
theorem apply_arith4 (x:ExprI) (hop:x.op=4) (va:Value) (a b:Val) (vr:Value) (row:List Val) (w:World) (ha:SliceOf Rep.val w.cell? va [a,b]) :
  Calls Tryz.prog 179 #[.agg (exprEnc x).toArray,va,vr] w fun e w'=>e = .returned (valV (applyV x a b row))∧Ext w w':=by
 rw [applyV_arith (by omega)]
 have hok:=vals_ok ha
 have oka:=Lib.hid (hok a (by simp))
 have okb:=Lib.hid (hok b (by simp))
 obtain⟨p,cap,rfl,_,_,hp⟩:=ha.form
 obtain⟨bb,o,rfl⟩:=hp (by decide) (by simp)
 obtain⟨c0,c1,c2,_⟩:=val_cells ha 0 (by simp)
 obtain⟨c3,c4,c5,_⟩:=val_cells ha 1 (by simp)
 simp only [Nat.zero_mul,Nat.one_mul,Nat.add_zero,List.getElem_cons_zero,List.getElem_cons_succ]at c0 c1 c2 c3 c4 c5
 obtain⟨op,xa,xb,col,⟨ck,cn,cs⟩⟩:=x
 dsimp only at hop ⊢
 obtain⟨z,hz⟩ : ∃z,arithV op a b=z:=⟨_,rfl⟩
 have HZ:=Lib.hid hz
 subst hop
 rw [hz]
 obtain⟨ak,an,sa⟩:=a
 obtain⟨bk,bn,sb⟩:=b
 dsimp only at c0 c1 c2 c3 c4 c5
 have e0:=cell_lt c0
 unfold exprEnc
 dsimp only
 have hl:([⟨ak,an,sa⟩,⟨bk,bn,sb⟩]:List Val).length=2:=rfl
 rw [hl]
 clear hok ha hp hz hl
 go_enter Tryz.func179,Tryz.ntmps179
 go_wp2_with fail
 refine wp_tail 8 (by kernel_rfl) (by kernel_rfl) _ rfl ?_
 simp only [List.take_succ_cons,List.take_zero,List.drop_succ_cons,List.drop_zero]
 repeat still_step
 refine wpStill_nil ?_
 go_wp2_with fail
 refine(arithmetic_any 4 (by decide) _ _ oka.out okb.out _).mono ?_
 rintro e w1 ⟨rfl,x1⟩
 rw [HZ.out]
 have d0:w1.cell? ⟨w.heap.size+1,0,none⟩=some (.int .i64 0):=x1.at (by go_simp)
 have d1:w1.cell? ⟨w.heap.size+1,1,none⟩=some (.int .i64 0):=x1.at (by go_simp)
 have d2:w1.cell? ⟨w.heap.size+1,2,none⟩=some (.string ByteArray.empty):=x1.at (by go_simp;rfl)
 have f0:w1.frozen? ⟨w.heap.size+1,0,none⟩=false:=x1.unfrozen (p:=⟨w.heap.size+1,0,none⟩) (v:= .int .i64 0) (by go_simp) (by go_simp)
 have f1:w1.frozen? ⟨w.heap.size+1,1,none⟩=false:=x1.unfrozen (p:=⟨w.heap.size+1,1,none⟩) (v:= .int .i64 0) (by go_simp) (by go_simp)
 have f2:w1.frozen? ⟨w.heap.size+1,2,none⟩=false:=x1.unfrozen (p:=⟨w.heap.size+1,2,none⟩) (v:= .string ByteArray.empty) (by go_simp;rfl) (by go_simp)
 have X1:=Lib.hid ((((Ext.refl w).alloc _).alloc _).drew.trans x1)
 have e1:=cell_lt d0
 obtain⟨zk,zn,zs⟩:=z
 clear HZ x1 oka okb c0 c1 c2 c3 c4 c5 e0
 unfold valV
 dsimp only
 go_wp2_with fail
 exact bodyPost_ret (v:= .agg #[.int .i64 zk,.int .i64 zn,.string zs]) (by simp [results,Tryz.results179,go_sem,d0,d1,d2]) rfl ⟨rfl,Below.setCell (Below.setCell (Below.setCell X1.out (by simp) _) (by simp) _) (by simp) _⟩
set_option maxRecDepth 100000 in
set_option maxHeartbeats 4000000 in
theorem apply_arith5 (x:ExprI) (hop:x.op=5) (va:Value) (a b:Val) (vr:Value) (row:List Val) (w:World) (ha:SliceOf Rep.val w.cell? va [a,b]) :
  Calls Tryz.prog 179 #[.agg (exprEnc x).toArray,va,vr] w fun e w'=>e = .returned (valV (applyV x a b row))∧Ext w w':=by
 rw [applyV_arith (by omega)]
 have hok:=vals_ok ha
 have oka:=Lib.hid (hok a (by simp))
 have okb:=Lib.hid (hok b (by simp))
 obtain⟨p,cap,rfl,_,_,hp⟩:=ha.form
 obtain⟨bb,o,rfl⟩:=hp (by decide) (by simp)
 obtain⟨c0,c1,c2,_⟩:=val_cells ha 0 (by simp)
 obtain⟨c3,c4,c5,_⟩:=val_cells ha 1 (by simp)
 simp only [Nat.zero_mul,Nat.one_mul,Nat.add_zero,List.getElem_cons_zero,List.getElem_cons_succ]at c0 c1 c2 c3 c4 c5
 obtain⟨op,xa,xb,col,⟨ck,cn,cs⟩⟩:=x
 dsimp only at hop ⊢
 obtain⟨z,hz⟩ : ∃z,arithV op a b=z:=⟨_,rfl⟩
 have HZ:=Lib.hid hz
 subst hop
 rw [hz]
 obtain⟨ak,an,sa⟩:=a
 obtain⟨bk,bn,sb⟩:=b
 dsimp only at c0 c1 c2 c3 c4 c5
 have e0:=cell_lt c0
 unfold exprEnc
 dsimp only
 have hl:([⟨ak,an,sa⟩,⟨bk,bn,sb⟩]:List Val).length=2:=rfl
 rw [hl]
 clear hok ha hp hz hl
 go_enter Tryz.func179,Tryz.ntmps179
 go_wp2_with fail
 refine wp_tail 8 (by kernel_rfl) (by kernel_rfl) _ rfl ?_
 simp only [List.take_succ_cons,List.take_zero,List.drop_succ_cons,List.drop_zero]
 repeat still_step
 refine wpStill_nil ?_
 go_wp2_with fail
 refine(arithmetic_any 5 (by decide) _ _ oka.out okb.out _).mono ?_
 rintro e w1 ⟨rfl,x1⟩
 rw [HZ.out]
 have d0:w1.cell? ⟨w.heap.size+1,0,none⟩=some (.int .i64 0):=x1.at (by go_simp)
 have d1:w1.cell? ⟨w.heap.size+1,1,none⟩=some (.int .i64 0):=x1.at (by go_simp)
 have d2:w1.cell? ⟨w.heap.size+1,2,none⟩=some (.string ByteArray.empty):=x1.at (by go_simp;rfl)
 have f0:w1.frozen? ⟨w.heap.size+1,0,none⟩=false:=x1.unfrozen (p:=⟨w.heap.size+1,0,none⟩) (v:= .int .i64 0) (by go_simp) (by go_simp)
 have f1:w1.frozen? ⟨w.heap.size+1,1,none⟩=false:=x1.unfrozen (p:=⟨w.heap.size+1,1,none⟩) (v:= .int .i64 0) (by go_simp) (by go_simp)
 have f2:w1.frozen? ⟨w.heap.size+1,2,none⟩=false:=x1.unfrozen (p:=⟨w.heap.size+1,2,none⟩) (v:= .string ByteArray.empty) (by go_simp;rfl) (by go_simp)
 have X1:=Lib.hid ((((Ext.refl w).alloc _).alloc _).drew.trans x1)
 have e1:=cell_lt d0
 obtain⟨zk,zn,zs⟩:=z
 clear HZ x1 oka okb c0 c1 c2 c3 c4 c5 e0
 unfold valV
 dsimp only
 go_wp2_with fail
 exact bodyPost_ret (v:= .agg #[.int .i64 zk,.int .i64 zn,.string zs]) (by simp [results,Tryz.results179,go_sem,d0,d1,d2]) rfl ⟨rfl,Below.setCell (Below.setCell (Below.setCell X1.out (by simp) _) (by simp) _) (by simp) _⟩
theorem apply_arith (x:ExprI) (hop:x.op=3∨x.op=4∨x.op=5) (va:Value) (a b:Val) (vr:Value) (row:List Val) (w:World) (ha:SliceOf Rep.val w.cell? va [a,b]) :
  Calls Tryz.prog 179 #[.agg (exprEnc x).toArray,va,vr] w fun e w'=>e = .returned (valV (applyV x a b row))∧Ext w w':=by
 rcases hop with h | h | h
 ·exact apply_arith3 x h va a b vr row w ha
 ·exact apply_arith4 x h va a b vr row w ha
 ·exact apply_arith5 x h va a b vr row w ha
end Go.Proofs.YtombmdaohcjokaaGreatDoor
