/- joined texts of a proof: PlainD, AreaP, PointP, PlainL, PlainR, PlainN, PlainM, PlainG, PlainJ -/
import Derived.Test.YtkddkbpoefidpaaGreatDoorKI04
import Derived.Test.YtkddkbpoefidpaaGreatDoorKI03
namespace Go.Proofs.YtkddkbpoefidpaaGreatDoor
def validT (t:Tup):Bool:=validB t.from_ t.to_
def bnd (l:List Tup):List Int:=l.flatMap fun t=>if validT t=true then [t.from_,t.to_]else []
def chg1 (t:Tup) (x:Int):Int:=if validT t=true then(if t.from_=x then 1 else 0) - (if t.to_=x then 1 else 0)else 0
def chg:List Tup→Int→Int
 |[],_=>0
 |t::l,x=>chg1 t x+chg l x
def holdsAt (x:Int) (t:Tup):Bool:=validT t&&decide (t.from_≤x)&&decide (x<t.to_)
def cntAt (l:List Tup) (x:Int):Nat:=(l.filter (holdsAt x)).length
theorem bnd_append (a b:List Tup):bnd (a++b)=bnd a++bnd b:=by simp [bnd]
theorem bnd_len (l:List Tup):(bnd l).length≤2*l.length:=by
 induction l with
 |nil=>simp [bnd]
 |cons t l ih =>
  have:bnd (t::l)=(if validT t=true then [t.from_,t.to_]else [])++bnd l:=rfl
  rw [this,List.length_append,List.length_cons]
  split <;> simp <;> omega
def sumL:List Int→Int
 |[]=>0
 |x::l=>x+sumL l
structure StepI where
 from_:Int
 to_:Int
 n:Int
def addStep (out:List StepI) (s:StepI):List StepI :=
 match out.getLast? with
 |some p=>if p.n=s.n then out.dropLast ++ [⟨p.from_,s.to_,p.n⟩]else out ++ [s]
 |none=> [s]
def stepsOf (P:List Int) (f:Nat→Int):Nat→List StepI
 |0=> []
 |k+1=>addStep (stepsOf P f k) ⟨P[k]!,P[k+1]!,f k⟩
theorem addStep_nil (s:StepI):addStep [] s = [s]:=rfl
theorem asc_len {l xs:List Int} (h:l.Pairwise (· < ·)) (hs : ∀x∈l,x∈xs):l.length≤xs.length:=by
 induction l generalizing xs with
 |nil=>simp
 |cons x l ih =>
  have h':=List.pairwise_cons.1 h
  have:=ih (xs:=xs.erase x) h'.2 fun y hy=>by
   have h1:=h'.1 y hy
   exact(List.mem_erase_of_ne (by omega)).2 (hs y (by simp [hy]))
  rw [List.length_erase_of_mem (hs x (by simp))]at this
  have hx:0<xs.length:=List.length_pos_of_mem (hs x (by simp))
  simp only [List.length_cons]
  omega
def pts (l:List Tup):List Int:=mergeL (bnd l) []
theorem pts_law (l:List Tup):AscOf (pts l) (bnd l):=by
 obtain⟨h1,h2⟩:=mergeL_law (bnd l) []
 have hm : ∀x,x∈pts l↔x∈bnd l:=fun x=>by unfold pts;rw [h2];simp
 exact⟨h1,hm,asc_len h1 fun x hx=>(hm x).1 hx⟩
def depthOf (l:List Tup):List StepI:=stepsOf (pts l) (fun i=>cntAt l (pts l)[i]!) ((pts l).length - 1)
end Go.Proofs.YtkddkbpoefidpaaGreatDoor
namespace Go.Proofs.YtkddkbpoefidpaaGreatDoor
open Go.Shelf Go.Sort
structure Per where
 from_:Int
 to_:Int
def NormPer (s:List Per):Prop:=s.Pairwise (fun a b=>a.to_<b.from_)∧ ∀p∈s,p.from_<p.to_
def inPer (s:List Per) (x:Int):Prop:= ∃p∈s,p.from_≤x∧x<p.to_
theorem inPer_cons {p:Per} {s:List Per} {x:Int}:inPer (p::s) x↔(p.from_≤x∧x<p.to_)∨inPer s x:=by simp [inPer]
theorem inPer_append {a b:List Per} {x:Int}:inPer (a++b) x↔inPer a x∨inPer b x:=by
 simp only [inPer,List.mem_append]
 constructor
 ·rintro⟨p,h | h,h2⟩
  ·exact .inl ⟨p,h,h2⟩
  ·exact .inr ⟨p,h,h2⟩
 ·rintro(⟨p,h,h2⟩ | ⟨p,h,h2⟩)
  ·exact⟨p,.inl h,h2⟩
  ·exact⟨p,.inr h,h2⟩
theorem inPer_nil {x:Int} : ¬inPer [] x:=by simp [inPer]
theorem NormPer.tail {p:Per} {s:List Per} (h:NormPer (p::s)):NormPer s:=⟨(List.pairwise_cons.1 h.1).2,fun q hq=>h.2 q (by simp [hq])⟩
theorem NormPer.head {p:Per} {s:List Per} (h:NormPer (p::s)):p.from_<p.to_∧ ∀q∈s,p.to_<q.from_:=⟨h.2 p (by simp),(List.pairwise_cons.1 h.1).1⟩
theorem NormPer.cons {p:Per} {s:List Per} (h:NormPer s) (hp:p.from_<p.to_) (hs : ∀q∈s,p.to_<q.from_):NormPer (p::s) :=
 ⟨List.pairwise_cons.2 ⟨hs,h.1⟩,fun q hq=>(List.mem_cons.1 hq).elim (fun e=>e▸hp) (fun hq=>h.2 q hq)⟩
theorem norm_unique {s t:List Per} (hs:NormPer s) (ht:NormPer t) (h : ∀x,inPer s x↔inPer t x):s=t:=by
 induction s generalizing t with
 |nil =>
  cases t with
  |nil=>rfl
  |cons q t =>
   have:=(h q.from_).2 ⟨q,by simp,Int.le_refl _,ht.head.1⟩
   exact(inPer_nil this).elim
 |cons p s ih =>
  cases t with
  |nil =>
   have:=(h p.from_).1 ⟨p,by simp,Int.le_refl _,hs.head.1⟩
   exact(inPer_nil this).elim
  |cons q t =>
   have lo : ∀ {p:Per} {s:List Per} {x:Int},NormPer (p::s)→inPer (p::s) x→p.from_≤x:=by
    intro p s x h1 h2
    rcases inPer_cons.1 h2 with h2 | ⟨r,h3,h4⟩
    ·exact h2.1
    ·have:=h1.head.2 r h3
     have:=h1.head.1
     omega
   have gap : ∀ {p:Per} {s:List Per},NormPer (p::s)→ ¬inPer (p::s) p.to_:=by
    intro p s h1 h2
    rcases inPer_cons.1 h2 with h2 | ⟨r,h3,h4⟩
    ·omega
    ·have:=h1.head.2 r h3
     omega
   have a1:=lo ht ((h p.from_).1 ⟨p,by simp,Int.le_refl _,hs.head.1⟩)
   have a2:=lo hs ((h q.from_).2 ⟨q,by simp,Int.le_refl _,ht.head.1⟩)
   have a3 : ¬p.to_<q.to_:=fun hl=>gap hs ((h p.to_).2 ⟨q,by simp,by have:=hs.head.1;omega,hl⟩)
   have a4 : ¬q.to_<p.to_:=fun hl=>gap ht ((h q.to_).1 ⟨p,by simp,by have:=ht.head.1;omega,hl⟩)
   have e:p=q:=by
    obtain⟨p1,p2⟩:=p
    obtain⟨q1,q2⟩:=q
    simp only [Per.mk.injEq]at *
    omega
   subst e
   congr 1
   refine ih hs.tail ht.tail fun x=> ?_
   have key : ∀ {s:List Per},NormPer (p::s)→(inPer s x↔inPer (p::s) x∧p.to_≤x):=by
    intro s h1
    constructor
    ·intro h2
     obtain⟨r,h3,h4⟩:=h2
     exact⟨inPer_cons.2 (.inr ⟨r,h3,h4⟩),by have:=h1.head.2 r h3;omega⟩
    ·rintro⟨h2,h3⟩
     rcases inPer_cons.1 h2 with h2 | h2
     ·omega
     ·exact h2
   rw [key hs,key ht,h x]
def addPer (out:List Per) (p:Per):List Per :=
 match out.getLast? with
 |some q=>if p.from_≤q.to_ then out.dropLast ++ [⟨q.from_,max q.to_ p.to_⟩]else out ++ [p]
 |none=> [p]
theorem addPer_new {out:List Per} {p:Per} (h : ∀(hn:0<out.length),¬p.from_≤(out[out.length - 1]'(by omega)).to_):addPer out p=out ++ [p]:=by
 unfold addPer
 rcases List.eq_nil_or_concat out with rfl | ⟨l,q,rfl⟩
 ·rfl
 ·simp only [List.concat_eq_append]at h ⊢
  have:=h (by simp)
  simp at this
  simp [this]
theorem addPer_old {out:List Per} {p:Per} (hn:0<out.length) (h:p.from_≤(out[out.length - 1]'(by omega)).to_):addPer out p=out.set (out.length - 1) ⟨(out[out.length - 1]'(by omega)).from_,max (out[out.length - 1]'(by omega)).to_ p.to_⟩:=by
 unfold addPer
 rcases List.eq_nil_or_concat out with rfl | ⟨l,q,rfl⟩
 ·simp at hn
 ·simp only [List.concat_eq_append]at h ⊢
  simp at h
  simp [h]
def mergePer (l:List Per):List Per:=l.foldl addPer []
theorem mergePer_snoc (l:List Per) (p:Per):mergePer (l ++ [p])=addPer (mergePer l) p:=by simp [mergePer,List.foldl_append]
theorem addPer_law {out:List Per} {p:Per} (h:NormPer out) (hp:p.from_<p.to_) (hf : ∀q∈out,q.from_≤p.from_):NormPer (addPer out p)∧ ∀x,inPer (addPer out p) x↔inPer out x∨(p.from_≤x∧x<p.to_):=by
 unfold addPer
 rcases List.eq_nil_or_concat out with rfl | ⟨l,q,rfl⟩
 ·exact⟨⟨by simp,by simpa using hp⟩,fun x=>by simp [inPer]⟩
 ·simp only [List.concat_eq_append]at h hf ⊢
  rw [List.getLast?_append]
  simp only [List.getLast?_singleton,Option.some_or,List.dropLast_concat]
  obtain⟨h1,h2⟩:=h
  have h3:=List.pairwise_append.1 h1
  have hq:=h2 q (by simp)
  have hqf:=hf q (by simp)
  split
  ·refine⟨⟨?_,?_⟩,fun x=> ?_⟩
   ·refine List.pairwise_append.2 ⟨h3.1,List.pairwise_singleton _ _,fun a ha b hb=> ?_⟩
    rw [List.mem_singleton]at hb
    subst hb
    exact h3.2.2 a ha q (by simp)
   ·intro a ha
    rcases List.mem_append.1 ha with ha | ha
    ·exact h2 a (by simp [ha])
    ·rw [List.mem_singleton]at ha;subst ha;simp only;omega
   ·rw [inPer_append,inPer_append]
    have e1:inPer [⟨q.from_,max q.to_ p.to_⟩] x↔q.from_≤x∧x<max q.to_ p.to_:=by simp [inPer]
    have e2:inPer [q] x↔q.from_≤x∧x<q.to_:=by simp [inPer]
    rw [e1,e2,or_assoc]
    refine or_congr Iff.rfl ?_
    omega
  ·refine⟨⟨?_,?_⟩,fun x=> ?_⟩
   ·refine List.pairwise_append.2 ⟨h1,List.pairwise_singleton _ _,fun a ha b hb=> ?_⟩
    rw [List.mem_singleton]at hb
    subst hb
    rcases List.mem_append.1 ha with ha | ha
    ·have:=h3.2.2 a ha q (by simp)
     omega
    ·rw [List.mem_singleton]at ha;subst ha;omega
   ·intro a ha
    rcases List.mem_append.1 ha with ha | ha
    ·exact h2 a ha
    ·rw [List.mem_singleton]at ha;subst ha;exact hp
   ·rw [inPer_append]
    have e1:inPer [p] x↔p.from_≤x∧x<p.to_:=by simp [inPer]
    rw [e1]
theorem addPer_from (out:List Per) (p:Per) (b:Int) (h : ∀q∈out,q.from_≤b) (hp:p.from_≤b) : ∀q∈addPer out p,q.from_≤b:=by
 unfold addPer
 rcases List.eq_nil_or_concat out with rfl | ⟨l,r,rfl⟩
 ·intro q hq
  simp at hq
  rw [hq];exact hp
 ·simp only [List.concat_eq_append]at h ⊢
  rw [List.getLast?_append]
  simp only [List.getLast?_singleton,Option.some_or,List.dropLast_concat]
  split
  ·intro q hq
   rcases List.mem_append.1 hq with hq | hq
   ·exact h q (by simp [hq])
   ·rw [List.mem_singleton]at hq;subst hq;exact h r (by simp)
  ·intro q hq
   rcases List.mem_append.1 hq with hq | hq
   ·exact h q hq
   ·rw [List.mem_singleton]at hq;subst hq;exact hp
theorem mergePer_law {l:List Per} (hv : ∀p∈l,p.from_<p.to_) (hs:l.Pairwise fun a b=>a.from_≤b.from_):NormPer (mergePer l)∧(∀x,inPer (mergePer l) x↔inPer l x):=by
 have key : ∀(l:List Per) (out:List Per),NormPer out→(∀p∈l,p.from_<p.to_)→(l.Pairwise fun a b=>a.from_≤b.from_)→(∀q∈out,∀p∈l,q.from_≤p.from_)→NormPer (l.foldl addPer out)∧ ∀x,inPer (l.foldl addPer out) x↔inPer out x∨inPer l x:=by
  intro l
  induction l with
  |nil=>intro out h _ _ _;exact⟨h,fun x=>by simp [inPer]⟩
  |cons p l ih =>
   intro out h hv hs hf
   have hs':=List.pairwise_cons.1 hs
   obtain⟨g1,g2⟩:=addPer_law h (hv p (by simp)) fun q hq=>hf q hq p (by simp)
   obtain⟨k1,k2⟩:=ih (addPer out p) g1 (fun q hq=>hv q (by simp [hq])) hs'.2 fun q hq r hr =>
    addPer_from out p r.from_ (fun q hq=>hf q hq r (by simp [hr])) (hs'.1 r hr) q hq
   refine⟨k1,fun x=> ?_⟩
   rw [List.foldl_cons,k2,g2,inPer_cons,or_assoc]
 obtain⟨h1,h2⟩:=key l [] ⟨List.Pairwise.nil,by simp⟩ hv hs (by simp)
 exact⟨h1,fun x=>by rw [mergePer,h2];simp [inPer]⟩
def absorb:List Per→Per→Per×List Per
 |[],p=>(p,[])
 |q::s,p=>if q.from_≤p.to_ then absorb s ⟨min p.from_ q.from_,max p.to_ q.to_⟩else(p,q::s)
def insPer:List Per→Per→List Per
 |[],p=> [p]
 |q::s,p=>if q.to_<p.from_ then q::insPer s p else(absorb (q::s) p).1::(absorb (q::s) p).2
theorem absorb_len (s:List Per) (p:Per):(absorb s p).2.length≤s.length:=by
 induction s generalizing p with
 |nil=>simp [absorb]
 |cons q s ih =>
  unfold absorb
  split
  ·have:=ih ⟨min p.from_ q.from_,max p.to_ q.to_⟩
   simp only [List.length_cons]
   omega
  ·simp
theorem insPer_len (s:List Per) (p:Per):(insPer s p).length≤s.length+1:=by
 induction s with
 |nil=>simp [insPer]
 |cons q s ih =>
  unfold insPer
  split
  ·simp only [List.length_cons];omega
  ·have:=absorb_len (q::s) p
   simp only [List.length_cons]at *
   omega
theorem absorb_law {s:List Per} {p:Per} (h:NormPer s) (hp:p.from_<p.to_) (ht : ∀q∈s,p.from_≤q.to_) :
  NormPer ((absorb s p).1::(absorb s p).2)∧(∀x,inPer ((absorb s p).1::(absorb s p).2) x↔inPer s x∨(p.from_≤x∧x<p.to_))∧ ∀L:Int,L<p.from_→(∀q∈s,L<q.from_)→ ∀q∈(absorb s p).1::(absorb s p).2,L<q.from_:=by
 induction s generalizing p with
 |nil=>exact⟨⟨by simp [absorb],by simpa [absorb] using hp⟩,fun x=>by simp [absorb,inPer],fun L h1 _=>by simpa [absorb] using h1⟩
 |cons q s ih =>
  have hq:=h.head
  have htq:=ht q (by simp)
  unfold absorb
  split
  ·obtain⟨g1,g2,g3⟩:=ih (p:=⟨min p.from_ q.from_,max p.to_ q.to_⟩) h.tail (by simp only;omega) fun r hr=>by
    have:=hq.2 r hr
    have:=h.2 r (by simp [hr])
    simp only
    omega
   refine⟨g1,fun x=> ?_,fun L h1 h2=>g3 L (by have:=h2 q (by simp);simp only;omega) fun r hr=>h2 r (by simp [hr])⟩
   rw [g2,inPer_cons]
   simp only
   have e:(min p.from_ q.from_≤x∧x<max p.to_ q.to_)↔(q.from_≤x∧x<q.to_)∨(p.from_≤x∧x<p.to_):=by omega
   rw [e]
   constructor
   ·rintro(k | k | k)
    ·exact .inl (.inr k)
    ·exact .inl (.inl k)
    ·exact .inr k
   ·rintro((k | k) | k)
    ·exact .inr (.inl k)
    ·exact .inl k
    ·exact .inr (.inr k)
  ·refine⟨NormPer.cons h hp fun r hr=> ?_,fun x=> ?_,fun L h1 h2 r hr=> ?_⟩
   ·rcases List.mem_cons.1 hr with rfl | hr
    ·simp only;omega
    ·have:=hq.2 r hr
     simp only
     omega
   ·rw [inPer_cons]
    exact or_comm
   ·rcases List.mem_cons.1 hr with rfl | hr
    ·exact h1
    ·exact h2 r hr
theorem insPer_law {s:List Per} {p:Per} (h:NormPer s) (hp:p.from_<p.to_) :
  NormPer (insPer s p)∧(∀x,inPer (insPer s p) x↔inPer s x∨(p.from_≤x∧x<p.to_))∧ ∀L:Int,L<p.from_→(∀q∈s,L<q.from_)→ ∀q∈insPer s p,L<q.from_:=by
 induction s with
 |nil=>exact⟨⟨by simp [insPer],by simpa [insPer] using hp⟩,fun x=>by simp [insPer,inPer],fun L h1 _=>by simpa [insPer] using h1⟩
 |cons q s ih =>
  have hq:=h.head
  unfold insPer
  split
  ·rename_i hl
   obtain⟨g1,g2,g3⟩:=ih h.tail
   refine⟨NormPer.cons g1 hq.1 (g3 q.to_ hl hq.2),fun x=> ?_,fun L h1 h2 r hr=> ?_⟩
   ·rw [inPer_cons,inPer_cons,g2,or_assoc]
   ·rcases List.mem_cons.1 hr with rfl | hr
    ·exact h2 _ (by simp)
    ·exact g3 L h1 (fun t ht=>h2 t (by simp [ht])) r hr
  ·refine absorb_law h hp fun r hr=> ?_
   rcases List.mem_cons.1 hr with rfl | hr
   ·omega
   ·have:=hq.2 r hr
    have:=h.2 r (by simp [hr])
    omega
def refNorm (l:List Per):List Per:=(l.filter fun p=>validB p.from_ p.to_).foldl insPer []
theorem refNorm_snoc (l:List Per) (p:Per):refNorm (l ++ [p])=if validB p.from_ p.to_=true then insPer (refNorm l) p else refNorm l:=by
 unfold refNorm
 rw [List.filter_append,List.foldl_append]
 by_cases h:validB p.from_ p.to_=true
 ·simp [h]
 ·simp [h]
theorem refNorm_len (l:List Per):(refNorm l).length≤l.length:=by
 have key : ∀(l:List Per) (out:List Per),(l.foldl insPer out).length≤out.length+l.length:=by
  intro l
  induction l with
  |nil=>intro out;simp
  |cons p l ih=>intro out;have:=ih (insPer out p);have:=insPer_len out p;simp only [List.foldl_cons,List.length_cons];omega
 have:=key (l.filter fun p=>validB p.from_ p.to_) []
 have:=List.length_filter_le (fun p:Per=>validB p.from_ p.to_) l
 unfold refNorm
 simp at *
 omega
theorem refNorm_law (l:List Per):NormPer (refNorm l)∧ ∀x,inPer (refNorm l) x↔inPer (l.filter fun p=>validB p.from_ p.to_) x:=by
 have key : ∀(l:List Per) (out:List Per),NormPer out→(∀p∈l,p.from_<p.to_)→NormPer (l.foldl insPer out)∧ ∀x,inPer (l.foldl insPer out) x↔inPer out x∨inPer l x:=by
  intro l
  induction l with
  |nil=>intro out h _;exact⟨h,fun x=>by simp [inPer]⟩
  |cons p l ih =>
   intro out h hv
   obtain⟨g1,g2,_⟩:=insPer_law h (hv p (by simp))
   obtain⟨k1,k2⟩:=ih (insPer out p) g1 fun q hq=>hv q (by simp [hq])
   refine⟨k1,fun x=> ?_⟩
   rw [List.foldl_cons,k2,g2,inPer_cons,or_assoc]
 obtain⟨h1,h2⟩:=key (l.filter fun p=>validB p.from_ p.to_) [] ⟨List.Pairwise.nil,by simp⟩ fun p hp=>(validB_lt (List.mem_filter.1 hp).2).2.1
 exact⟨h1,fun x=>by rw [refNorm,h2];simp [inPer]⟩
theorem inPer_perm {s t:List Per} (h:s.Perm t) (x:Int):inPer s x↔inPer t x:=by
 unfold inPer
 constructor
 ·rintro⟨p,h1,h2⟩;exact⟨p,h.mem_iff.1 h1,h2⟩
 ·rintro⟨p,h1,h2⟩;exact⟨p,h.mem_iff.2 h1,h2⟩
theorem norm_agree {l s:List Per} (hp:s.Perm (l.filter fun p=>validB p.from_ p.to_)) (hs:s.Pairwise fun a b=>a.from_≤b.from_):mergePer s=refNorm l:=by
 obtain⟨h1,h2⟩:=mergePer_law (l:=s) (fun p h=>(validB_lt (List.mem_filter.1 (hp.mem_iff.1 h)).2).2.1) hs
 obtain⟨k1,k2⟩:=refNorm_law l
 exact norm_unique h1 k1 fun x=>by rw [h2,k2];exact inPer_perm hp x
end Go.Proofs.YtkddkbpoefidpaaGreatDoor
namespace Go.Proofs.YtkddkbpoefidpaaGreatDoor
def sumN (g:Nat→Int):Nat→Int
 |0=>0
 |k+1=>sumN g k+g k
def dP (P:List Int) (i:Nat):Int:=P[i+1]! - P[i]!
theorem asc_at {P:List Int} (hP:P.Pairwise (· < ·)) {i j:Nat} (hij:i<j) (hj:j<P.length):P[i]! < P[j]! := by
 rw [getElem!_pos P i (by omega),getElem!_pos P j hj]
 exact List.pairwise_iff_getElem.1 hP i j (by omega) hj hij
theorem gap {P:List Int} (hP:P.Pairwise (· < ·)) {y:Int} (hy:y∈P) {k:Nat} (hk:k+1<P.length) (h:P[k]! < y):P[k+1]! ≤y:=by
 obtain⟨j,hj,rfl⟩:=List.getElem_of_mem hy
 have h1:P[j]=P[j]! := (getElem!_pos P j hj).symm
 rw [h1]at h ⊢
 by_cases e:j≤k
 ·rcases Nat.lt_or_eq_of_le e with e | e
  ·have:=asc_at hP e (by omega);omega
  ·subst e;omega
 ·by_cases e2:j=k+1
  ·subst e2;omega
  ·have:=asc_at hP (show k+1<j by omega) hj;omega
theorem first_le {P:List Int} (hP:P.Pairwise (· < ·)) {x:Int} (hx:x∈P):P[0]! ≤x:=by
 obtain⟨j,hj,rfl⟩:=List.getElem_of_mem hx
 rw [show P[j]=P[j]! from (getElem!_pos P j hj).symm]
 rcases Nat.eq_zero_or_pos j with e | e
 ·subst e;omega
 ·have:=asc_at hP e hj;omega
theorem le_last {P:List Int} (hP:P.Pairwise (· < ·)) {x:Int} (hx:x∈P):x≤P[P.length - 1]! := by
 obtain⟨j,hj,rfl⟩:=List.getElem_of_mem hx
 rw [show P[j]=P[j]! from (getElem!_pos P j hj).symm]
 by_cases e:j=P.length - 1
 ·subst e;omega
 ·have:=asc_at hP (show j<P.length - 1 by omega) (by omega);omega
def ind (b:Bool):Int:=if b=true then 1 else 0
def inI (x y z:Int):Bool:=decide (x≤z)&&decide (z<y)
def lens:List Tup→Int
 |[]=>0
 |t::l=>(t.to_ - t.from_)+lens l
def area:List StepI→Int
 |[]=>0
 |s::l=>(s.to_ - s.from_)*s.n+area l
def cov:List StepI→Int
 |[]=>0
 |s::l=>(if 0<s.n then s.to_ - s.from_ else 0)+cov l
def StepRuns (d:List StepI):Prop:=(∀s∈d,s.from_<s.to_)∧ ∀i (h:i+1<d.length),d[i].to_=d[i+1].from_∧d[i].n≠d[i+1].n
def perLen:List Per→Int
 |[]=>0
 |p::s=>(p.to_ - p.from_)+perLen s
def Ends (L:List Int) (s:List Per):Prop:= ∀p∈s,p.from_∈L∧p.to_∈L
def tupPer (t:Tup):Per:=⟨t.from_,t.to_⟩
end Go.Proofs.YtkddkbpoefidpaaGreatDoor
namespace Go.Proofs.YtkddkbpoefidpaaGreatDoor
def hE (t:Int) (e:Ev):Bool:=validB e.from_ e.to_&&decide (e.from_≤t)&&decide (t<e.to_)
def inP (t:Int) (p:Pair):Bool:=decide (p.from_≤t)&&decide (t<p.to_)
def valAt (t:Int) (l:List StepI):Int:=l.foldl (fun d s=>if s.from_≤t∧t<s.to_ then s.n else d) 0
theorem hold_between {P:List Int} (hP:P.Pairwise (· < ·)) {i:Nat} (hi:i+1<P.length) {t:Int} (h1:P[i]! ≤t) (h2:t<P[i+1]!) (l:List Tup) (hb : ∀x∈bnd l,x∈P) : ∀x∈l,holdsAt P[i]! x=holdsAt t x:=by
 intro x hx
 unfold holdsAt
 cases hv:validB x.from_ x.to_ with
 |false =>
  have:validT x=false:=hv
  simp [this]
 |true =>
  have hm : ∀z,z=x.from_∨z=x.to_→z∈P:=fun z hz=>hb z (by
   unfold bnd
   refine List.mem_flatMap.2 ⟨x,hx,?_⟩
   have:validT x=true:=hv
   rw [this,if_pos rfl]
   rcases hz with rfl | rfl <;> simp)
  have g1:=gap hP (hm x.from_ (.inl rfl)) hi
  have g2:=gap hP (hm x.to_ (.inr rfl)) hi
  have:validT x=true:=hv
  rw [this,Bool.true_and,Bool.true_and,Bool.eq_iff_iff]
  simp only [Bool.and_eq_true,decide_eq_true_eq]
  omega
theorem cnt_out {P:List Int} (hP:P.Pairwise (· < ·)) {t:Int} (l:List Tup) (hb : ∀x∈bnd l,x∈P) (h:t<P[0]! ∨P[P.length - 1]! ≤t):cntAt l t=0:=by
 unfold cntAt
 rw [List.length_eq_zero_iff,List.filter_eq_nil_iff]
 intro x hx hc
 unfold holdsAt at hc
 simp only [Bool.and_eq_true,decide_eq_true_eq]at hc
 have hv:validT x=true:=hc.1.1
 have hm : ∀z,z=x.from_∨z=x.to_→z∈P:=fun z hz=>hb z (by
  unfold bnd
  refine List.mem_flatMap.2 ⟨x,hx,?_⟩
  rw [hv,if_pos rfl]
  rcases hz with rfl | rfl <;> simp)
 have g1:=first_le hP (hm x.from_ (.inl rfl))
 have g2:=le_last hP (hm x.to_ (.inr rfl))
 omega
end Go.Proofs.YtkddkbpoefidpaaGreatDoor
namespace Go.Proofs.YtkddkbpoefidpaaGreatDoor
def perHas (t:Int) (p:Per):Bool:=decide (p.from_≤t)&&decide (t<p.to_)
def levStep (d:Nat) (x:Int) (q:List Int×List Per):List Int×List Per :=
 (q.1.take d++List.replicate (d - q.1.length) x,q.2++(q.1.drop d).reverse.map fun s=>⟨s,x⟩)
def levOf (P:List Int) (f:Nat→Nat):Nat→List Int×List Per
 |0=>([],[])
 |k+1=>levStep (f k) P[k]! (levOf P f k)
theorem levStep_len (d:Nat) (x:Int) (q:List Int×List Per):(levStep d x q).1.length=d:=by
 simp only [levStep,List.length_append,List.length_take,List.length_replicate]
 omega
def levCnt (t:Int) (q:List Int×List Per):Nat:=(q.2.filter (perHas t)).length+(q.1.filter fun s=>decide (s≤t)).length
theorem filter_all {α:Type} {p:α→Bool} {l:List α} (h : ∀x∈l,p x=true):l.filter p=l:=List.filter_eq_self.2 h
theorem levStep_cnt (d:Nat) (x t:Int) (q:List Int×List Per) (h1 : ∀s∈q.1,s<x) (h2 : ∀p∈q.2,p.to_≤x):levCnt t (levStep d x q)=if x≤t then d else levCnt t q:=by
 obtain⟨o,out⟩:=q
 simp only at h1 h2
 unfold levCnt levStep
 simp only
 by_cases h:x≤t
 ·rw [if_pos h]
  have e1:(out++(o.drop d).reverse.map fun s=>(⟨s,x⟩:Per)).filter (perHas t) = []:=by
   rw [List.filter_eq_nil_iff]
   intro p hp
   unfold perHas
   simp only [Bool.and_eq_true,decide_eq_true_eq]
   rcases List.mem_append.1 hp with hp | hp
   ·have:=h2 p hp;omega
   ·obtain⟨s,_,rfl⟩:=List.mem_map.1 hp
    simp only
    omega
  have e2:(o.take d++List.replicate (d - o.length) x).filter (fun s=>decide (s≤t))=o.take d++List.replicate (d - o.length) x:=filter_all fun s hs=>by
   rw [decide_eq_true_eq]
   rcases List.mem_append.1 hs with hs | hs
   ·have:=h1 s (List.mem_of_mem_take hs);omega
   ·rw [List.eq_of_mem_replicate hs];exact h
  rw [e1,e2]
  simp only [List.length_nil,List.length_append,List.length_take,List.length_replicate]
  omega
 ·rw [if_neg h]
  have e0:(List.replicate (d - o.length) x).filter (fun s=>decide (s≤t)) = []:=by
   rw [List.filter_eq_nil_iff]
   intro s hs
   rw [List.eq_of_mem_replicate hs,decide_eq_true_eq]
   exact h
  have e1:(((o.drop d).reverse.map fun s=>(⟨s,x⟩:Per)).filter (perHas t)).length=((o.drop d).filter fun s=>decide (s≤t)).length:=by
   rw [List.filter_map,List.length_map,List.filter_reverse,List.length_reverse]
   congr 2
   funext s
   simp only [Function.comp,perHas]
   rw [show decide (t<x)=true by rw [decide_eq_true_eq];omega,Bool.and_true]
  have e2:(o.filter fun s=>decide (s≤t)).length=((o.take d).filter fun s=>decide (s≤t)).length+((o.drop d).filter fun s=>decide (s≤t)).length:=by
   rw [←List.length_append,←List.filter_append,List.take_append_drop]
  rw [List.filter_append,List.filter_append,List.length_append,List.length_append,e0,e1,e2]
  simp only [List.length_nil]
  omega
def gAt (P:List Int) (f:Nat→Nat):Nat→Int→Nat
 |0,_=>0
 |k+1,t=>if P[k]! ≤t then f k else gAt P f k t
theorem levOf_law {P:List Int} (hP:P.Pairwise (· < ·)) (f:Nat→Nat) (k:Nat) (hk:k≤P.length) :
  (∀t,levCnt t (levOf P f k)=gAt P f k t)∧(∀s∈(levOf P f k).1,s∈P∧(k<P.length→s<P[k]!))∧(∀p∈(levOf P f k).2,p.from_∈P∧p.to_∈P∧p.from_<p.to_∧(k<P.length→p.to_<P[k]!))∧(0<k→(levOf P f k).1.length=f (k - 1)):=by
 induction k with
 |zero=>exact⟨fun t=>rfl,fun s hs=>(by cases hs),fun p hp=>(by cases hp),fun h=>by omega⟩
 |succ k ih =>
  obtain⟨h1,h2,h3,_⟩:=ih (by omega)
  have hkm:P[k]! ∈P:=by rw [getElem!_pos P k (by omega)];exact List.getElem_mem _
  have hup : ∀z,z<P[k]! ∨z=P[k]! →k+1<P.length→z<P[k+1]! := fun z hz h=>by
   have:=asc_at hP (show k<k+1 by omega) h
   omega
  refine⟨fun t=> ?_,fun s hs=> ?_,fun p hp=> ?_,fun _=>levStep_len _ _ _⟩
  ·show levCnt t (levStep (f k) P[k]! (levOf P f k))=if P[k]! ≤t then f k else gAt P f k t
   rw [levStep_cnt _ _ _ _ (fun s hs=>(h2 s hs).2 (by omega)) fun p hp=>by have:=(h3 p hp).2.2.2 (by omega);omega,h1 t]
  ·have hs':s∈(levOf P f k).1.take (f k)++List.replicate (f k - (levOf P f k).1.length) P[k]! := hs
   rcases List.mem_append.1 hs' with hs | hs
   ·have:=h2 s (List.mem_of_mem_take hs)
    exact⟨this.1,hup s (.inl (this.2 (by omega)))⟩
   ·rw [List.eq_of_mem_replicate hs]
    exact⟨hkm,hup _ (.inr rfl)⟩
  ·have hp':p∈(levOf P f k).2++((levOf P f k).1.drop (f k)).reverse.map fun s=>(⟨s,P[k]!⟩:Per):=hp
   rcases List.mem_append.1 hp' with hp | hp
   ·obtain⟨g1,g2,g3,g4⟩:=h3 p hp
    exact⟨g1,g2,g3,hup _ (.inl (g4 (by omega)))⟩
   ·obtain⟨s,hs,rfl⟩:=List.mem_map.1 hp
    have:=h2 s (List.mem_of_mem_drop (List.mem_reverse.1 hs))
    exact⟨this.1,hkm,this.2 (by omega),hup _ (.inr rfl)⟩
def perT (p:Per):Tup:=⟨[],p.from_,p.to_,[]⟩
def levPts (ps:List Per):List Int:=pts (ps.map perT)
def levF (ps:List Per) (i:Nat):Nat:=cntAt (ps.map perT) (levPts ps)[i]!
def levels (ps:List Per):List Per:=(levOf (levPts ps) (levF ps) (levPts ps).length).2
theorem levels_ends (ps:List Per) : ∀p∈levels ps,p.from_∈levPts ps∧p.to_∈levPts ps∧p.from_<p.to_:=fun p hp=>by
 obtain⟨p1,_,_⟩:=pts_law (ps.map perT)
 obtain⟨_,_,h3,_⟩:=levOf_law p1 (levF ps) (levPts ps).length (Nat.le_refl _)
 exact⟨(h3 p hp).1,(h3 p hp).2.1,(h3 p hp).2.2.1⟩
end Go.Proofs.YtkddkbpoefidpaaGreatDoor
namespace Go.Proofs.YtkddkbpoefidpaaGreatDoor
open Go.RowKit
def tupRow (t:Tup):Row:=⟨t.vals,t.lin⟩
def sliceRows (l:List Tup) (x:Int):List Row:=(l.filter (holdsAt x)).map tupRow
theorem slice_step (l:List Tup) (x:Int) (k:Nat) (h:k<l.length):sliceRows (l.take (k+1)) x=sliceRows (l.take k) x++if (validB l[k].from_ l[k].to_&&decide (l[k].from_≤x)&&decide (x<l[k].to_))=true then [tupRow l[k]]else []:=by
 rw [List.take_succ_eq_append_getElem h]
 unfold sliceRows
 rw [List.filter_append,List.map_append]
 congr 1
 rw [List.filter_cons,List.filter_nil]
 show List.map tupRow (if holdsAt x l[k]=true then [l[k]]else [])=_
 rw [show holdsAt x l[k]=(validB l[k].from_ l[k].to_&&decide (l[k].from_≤x)&&decide (x<l[k].to_))from rfl]
 split <;> rfl
theorem sliceRows_len (l:List Tup) (x:Int):(sliceRows l x).length=cntAt l x:=by unfold sliceRows cntAt;rw [List.length_map]
end Go.Proofs.YtkddkbpoefidpaaGreatDoor
namespace Go.Proofs.YtkddkbpoefidpaaGreatDoor
open Go.RowKit
def tupOf (r:Row) (p:Per):Tup:=⟨r.vals,p.from_,p.to_,r.lin⟩
def cmpTup (a b:Tup):Int:=orI [cmpRow (tupRow a) (tupRow b),cmpI a.from_ b.from_,cmpI a.to_ b.to_]
theorem cmpTup_eq (a b:Tup):cmpTup a b=if cmpRow (tupRow a) (tupRow b)=0 then(if cmpI a.from_ b.from_=0 then cmpI a.to_ b.to_ else cmpI a.from_ b.from_)else cmpRow (tupRow a) (tupRow b):=by
 unfold cmpTup orI orI orI orI
 by_cases h1:cmpRow (tupRow a) (tupRow b)=0 <;> by_cases h2:cmpI a.from_ b.from_=0 <;> by_cases h3:cmpI a.to_ b.to_=0 <;> simp [h1,h2,h3]
theorem flat_congr {α β:Type} {f g:α→List β} {l:List α} (h : ∀x∈l,f x=g x):l.flatMap f=l.flatMap g:=by
 induction l with
 |nil=>rfl
 |cons x l ih=>rw [List.flatMap_cons,List.flatMap_cons,h x (by simp),ih fun y hy=>h y (by simp [hy])]
theorem ord_tup:Ord3 cmpTup:=by
 have h:Ord3 fun x y:Row×Int×Int=>if cmpRow x.1 y.1=0 then(if cmpI x.2.1 y.2.1=0 then cmpI x.2.2 y.2.2 else cmpI x.2.1 y.2.1)else cmpRow x.1 y.1 :=
  ord_then ord_row ord_I2 Prod.fst Prod.snd fun _ _ h1 h2=>Prod.ext h1 h2
 have h2:=ord_pull h (fun t:Tup=>(tupRow t,t.from_,t.to_)) fun x y e=>by
  obtain⟨_,_,_,_⟩:=x
  obtain⟨_,_,_,_⟩:=y
  simp only [tupRow,Prod.mk.injEq,Row.mk.injEq]at e
  simp [e]
 have e:cmpTup=fun x y:Tup=>if cmpRow (tupRow x) (tupRow y)=0 then(if cmpI x.from_ y.from_=0 then cmpI x.to_ y.to_ else cmpI x.from_ y.from_)else cmpRow (tupRow x) (tupRow y):=by
  funext a b
  exact cmpTup_eq a b
 rw [e]
 exact h2
section
open Classical
noncomputable def once {α:Type}:List α→List α
 |[]=> []
 |x::l=>if x∈l then once l else x::once l
theorem mem_once {α:Type} {x:α} {l:List α}:x∈once l↔x∈l:=by
 induction l with
 |nil=>rfl
 |cons y l ih =>
  unfold once
  split
  ·rename_i h
   rw [ih,List.mem_cons]
   exact⟨.inr,fun hx=>by rcases hx with rfl | hx;exact h;exact hx⟩
  ·rw [List.mem_cons,List.mem_cons,ih]
theorem once_nodup {α:Type} (l:List α):(once l).Nodup:=by
 induction l with
 |nil=>exact List.nodup_nil
 |cons y l ih =>
  unfold once
  split
  ·exact ih
  ·rename_i h
   exact List.nodup_cons.2 ⟨fun hx=>h (mem_once.1 hx),ih⟩
noncomputable def persOf (r:Row) (l:List Tup):List Per:=((l.filter validT).filter fun t=>decide (tupRow t=r)).map tupPer
noncomputable def rowsOf (l:List Tup):List Row:=once ((l.filter validT).map tupRow)
noncomputable def normRaw (ks:List Row) (l:List Tup):List Tup:=ks.flatMap fun r=>(levels (persOf r l)).map (tupOf r)
noncomputable def normT (l:List Tup):List Tup:=sortBy cmpTup (normRaw (rowsOf l) l)
theorem normT_of {l:List Tup} {ks:List Row} (hn:ks.Nodup) (hk : ∀r,r∈ks↔ ∃t∈l,validT t=true∧tupRow t=r) {out:List Tup} (ho:out.Perm (normRaw ks l)):sortBy cmpTup out=normT l:=by
 refine sortBy_unique ord_tup ?_ (sortBy_pair ord_tup _)
 refine(sortBy_perm _ _).trans (ho.trans ?_)
 unfold normRaw
 refine List.Perm.flatMap_right _ ((List.perm_ext_iff_of_nodup hn (once_nodup _)).2 fun r=> ?_)
 rw [hk r,mem_once,List.mem_map]
 constructor
 ·rintro⟨t,h1,h2,h3⟩;exact⟨t,List.mem_filter.2 ⟨h1,h2⟩,h3⟩
 ·rintro⟨t,h1,h3⟩;exact⟨t,(List.mem_filter.1 h1).1,(List.mem_filter.1 h1).2,h3⟩
theorem persOf_valid (r:Row) (l:List Tup) : ∀p∈persOf r l,validB p.from_ p.to_=true:=by
 intro p hp
 unfold persOf at hp
 obtain⟨t,ht,rfl⟩:=List.mem_map.1 hp
 exact(List.mem_filter.1 (List.mem_filter.1 ht).1).2
end
end Go.Proofs.YtkddkbpoefidpaaGreatDoor
namespace Go.Proofs.YtkddkbpoefidpaaGreatDoor
open Go.RowKit
def runL (c:Int→Nat) (l:List Int) (q:List Int×List Per):List Int×List Per:=l.foldl (fun q x=>levStep (c x) x q) q
theorem levStep_same (x:Int) (q:List Int×List Per):levStep q.1.length x q=q:=by
 unfold levStep
 rw [List.take_length,Nat.sub_self,List.drop_length]
 simp
theorem levOf_run {P:List Int} (f:Nat→Nat) (c:Int→Nat) (h : ∀i,i<P.length→f i=c P[i]!) (k:Nat) (hk:k≤P.length):levOf P f k=runL c (P.take k) ([],[]):=by
 induction k with
 |zero=>rfl
 |succ k ih =>
  have e:runL c (P.take (k+1)) ([],[])=levStep (c P[k]!) P[k]! (runL c (P.take k) ([],[])):=by
   unfold runL
   rw [List.take_succ_eq_append_getElem (by omega),List.foldl_append,getElem!_pos P k (by omega)]
   rfl
  rw [e,←ih (by omega),←h k (by omega)]
  rfl
def Still (c:Int→Nat) (p:Int→Bool):Nat→List Int→Prop
 |_,[]=>True
 |d,x::l=>(p x=false→c x=d)∧Still c p (c x) l
theorem run_still (c:Int→Nat) (p:Int→Bool) : ∀(l:List Int) (q:List Int×List Per),Still c p q.1.length l→runL c l q=runL c (l.filter p) q:=by
 intro l
 induction l with
 |nil=>intro q _;rfl
 |cons x l ih =>
  intro q h
  obtain⟨h1,h2⟩:=h
  have hs:runL c (x::l) q=runL c l (levStep (c x) x q):=rfl
  rw [hs]
  cases hp:p x with
  |true =>
   rw [List.filter_cons_of_pos hp,ih _ (by rw [levStep_len];exact h2)]
   rfl
  |false =>
   have e:=h1 hp
   rw [List.filter_cons_of_neg (by simp [hp]),e,levStep_same]
   exact ih q (by rw [←e];exact h2)
theorem bnd_mem {l:List Tup} {t:Tup} (ht:t∈l) (hv:validT t=true):t.from_∈bnd l∧t.to_∈bnd l:=by
 unfold bnd
 constructor
 ·exact List.mem_flatMap.2 ⟨t,ht,by rw [if_pos hv];simp⟩
 ·exact List.mem_flatMap.2 ⟨t,ht,by rw [if_pos hv];simp⟩
theorem cnt_still (l:List Tup) {y x:Int} (hyx:y≤x) (h : ∀z∈bnd l,z≤y∨x<z):cntAt l y=cntAt l x:=by
 unfold cntAt
 congr 1
 refine List.filter_congr fun t ht=> ?_
 unfold holdsAt
 cases hv:validT t with
 |false=>rfl
 |true =>
  obtain⟨h1,h2⟩:=bnd_mem ht hv
  have h1:=h _ h1
  have h2:=h _ h2
  rw [Bool.true_and,Bool.true_and,Bool.eq_iff_iff]
  simp only [Bool.and_eq_true,decide_eq_true_eq]
  omega
theorem cnt_early (l:List Tup) {x:Int} (h : ∀z∈bnd l,x<z):cntAt l x=0:=by
 unfold cntAt
 rw [List.length_eq_zero_iff,List.filter_eq_nil_iff]
 intro t ht hh
 unfold holdsAt at hh
 simp only [Bool.and_eq_true,decide_eq_true_eq]at hh
 have:=h _ (bnd_mem ht hh.1.1).1
 omega
theorem still_on (l:List Tup) : ∀(R:List Int) (y:Int),(∀x∈R,y<x)→R.Pairwise (· < ·)→(∀z∈bnd l,z≤y∨z∈R)→Still (cntAt l) (fun x=>decide (x∈bnd l)) (cntAt l y) R:=by
 intro R
 induction R with
 |nil=>intro y _ _ _;trivial
 |cons x R ih =>
  intro y h1 h2 h3
  obtain⟨g1,g2⟩:=List.pairwise_cons.1 h2
  refine⟨fun hp=> ?_,ih x g1 g2 fun z hz=> ?_⟩
  ·symm
   refine cnt_still l (by have:=h1 x (by simp);omega) fun z hz=> ?_
   rcases h3 z hz with c | c
   ·exact .inl c
   ·rcases List.mem_cons.1 c with rfl | c
    ·simp [hz]at hp
    ·exact .inr (g1 z c)
  ·rcases h3 z hz with c | c
   ·exact .inl (by have:=h1 x (by simp);omega)
   ·rcases List.mem_cons.1 c with rfl | c
    ·exact .inl (Int.le_refl _)
    ·exact .inr c
theorem still_all (l:List Tup) {R:List Int} (hR:R.Pairwise (· < ·)) (h : ∀z∈bnd l,z∈R):Still (cntAt l) (fun x=>decide (x∈bnd l)) 0 R:=by
 cases R with
 |nil=>trivial
 |cons x R =>
  obtain⟨g1,g2⟩:=List.pairwise_cons.1 hR
  refine⟨fun hp=> ?_,still_on l R x g1 g2 fun z hz=> ?_⟩
  ·refine cnt_early l fun z hz=> ?_
   rcases List.mem_cons.1 (h z hz)with rfl | c
   ·simp [hz]at hp
   ·exact g1 z c
  ·rcases List.mem_cons.1 (h z hz)with rfl | c
   ·exact .inl (Int.le_refl _)
   ·exact .inr c
theorem levels_over (ps:List Per) {R:List Int} (hR:R.Pairwise (· < ·)) (h : ∀z∈bnd (ps.map perT),z∈R):levels ps=(runL (cntAt (ps.map perT)) R ([],[])).2:=by
 obtain⟨p1,p2,_⟩:=pts_law (ps.map perT)
 have e:R.filter (fun x=>decide (x∈bnd (ps.map perT)))=levPts ps:=by
  refine List.Perm.eq_of_pairwise (le:=(· < ·)) (fun x y _ _ h1 h2=>by omega) (hR.filter _) p1 ((List.perm_ext_iff_of_nodup ((hR.filter _).imp fun h=>by omega) (p1.imp fun h=>by omega)).2 fun x=> ?_)
  rw [p2,List.mem_filter,decide_eq_true_eq]
  exact⟨fun hx=>hx.2,fun hx=>⟨h x hx,hx⟩⟩
 rw [run_still _ _ R ([],[]) (still_all _ hR h),e]
 unfold levels
 rw [levOf_run (levF ps) (cntAt (ps.map perT)) (fun i _=>rfl) _ (Nat.le_refl _),List.take_length]
theorem levels_congr {ps qs:List Per} (h : ∀t,cntAt (ps.map perT) t=cntAt (qs.map perT) t):levels ps=levels qs:=by
 obtain⟨p1,p2,_⟩:=pts_law (ps.map perT++qs.map perT)
 rw [levels_over ps p1 fun z hz=>(p2 z).2 (by rw [bnd_append];exact List.mem_append_left _ hz),levels_over qs p1 fun z hz=>(p2 z).2 (by rw [bnd_append];exact List.mem_append_right _ hz)]
 rw [show cntAt (ps.map perT)=cntAt (qs.map perT)from funext h]
section
open Classical
theorem row_mem (l:List Tup) (r:Row):(∃t∈l,validT t=true∧tupRow t=r)↔ ∃x,r∈sliceRows l x:=by
 unfold sliceRows
 constructor
 ·rintro⟨t,h1,h2,rfl⟩
  refine⟨t.from_,List.mem_map.2 ⟨t,List.mem_filter.2 ⟨h1,?_⟩,rfl⟩⟩
  have hv:validB t.from_ t.to_=true:=h2
  have:=validB_lt hv
  unfold holdsAt
  rw [h2,Bool.true_and]
  simp only [Bool.and_eq_true,decide_eq_true_eq]
  omega
 ·rintro⟨x,hx⟩
  obtain⟨t,h1,h2⟩:=List.mem_map.1 hx
  obtain⟨h3,h4⟩:=List.mem_filter.1 h1
  unfold holdsAt at h4
  simp only [Bool.and_eq_true]at h4
  exact⟨t,h3,h4.1.1,h2⟩
theorem persOf_cnt (r:Row) (l:List Tup) (t:Int):cntAt ((persOf r l).map perT) t=((sliceRows l t).filter fun x=>decide (x=r)).length:=by
 unfold cntAt persOf sliceRows
 rw [List.filter_map,List.length_map,List.filter_map,List.length_map,List.filter_filter,List.filter_filter,List.filter_map,List.length_map,List.filter_filter]
 congr 1
 refine List.filter_congr fun x _=> ?_
 have e:holdsAt t (perT (tupPer x))=holdsAt t x:=rfl
 simp only [Function.comp,e]
 have e2:holdsAt t x=(validT x&&holdsAt t x):=by
  unfold holdsAt
  cases validT x <;> rfl
 cases h1:holdsAt t x
 ·simp
 ·rw [h1,Bool.and_true]at e2
  rw [←e2]
  simp
theorem normT_congr {a b:List Tup} (h : ∀t,(sliceRows a t).Perm (sliceRows b t)):normT a=normT b:=by
 have hr : ∀r,r∈rowsOf a↔ ∃t∈b,validT t=true∧tupRow t=r:=fun r=>by
  rw [row_mem]
  have e:r∈rowsOf a↔ ∃t∈a,validT t=true∧tupRow t=r:=by
   unfold rowsOf
   rw [mem_once,List.mem_map]
   constructor
   ·rintro⟨t,h1,h3⟩;exact⟨t,(List.mem_filter.1 h1).1,(List.mem_filter.1 h1).2,h3⟩
   ·rintro⟨t,h1,h2,h3⟩;exact⟨t,List.mem_filter.2 ⟨h1,h2⟩,h3⟩
  rw [e,row_mem]
  constructor
  ·rintro⟨x,hx⟩;exact⟨x,(h x).mem_iff.1 hx⟩
  ·rintro⟨x,hx⟩;exact⟨x,(h x).mem_iff.2 hx⟩
 refine normT_of (once_nodup _) hr ?_
 unfold normRaw
 refine List.Perm.of_eq (flat_congr fun r _=> ?_)
 have e:levels (persOf r a)=levels (persOf r b):=levels_congr fun t=>by rw [persOf_cnt,persOf_cnt,((h t).filter _).length_eq]
 rw [e]
end
end Go.Proofs.YtkddkbpoefidpaaGreatDoor
namespace Go.Proofs.YtkddkbpoefidpaaGreatDoor
open Go.RowKit
def clip1 (t:Tup):Option Tup:=if validT t=true∧max t.from_ 0<min t.to_ 1000000 then some ⟨t.vals,max t.from_ 0,min t.to_ 1000000,t.lin⟩else none
def clipT (l:List Tup):List Tup:=l.filterMap clip1
def gRow (aggV:List (List Val)→List Val) (kv:List Val) (ms:List Tup) (t:Int):Row:=⟨kv++aggV ((ms.filter (holdsAt t)).map Tup.vals),mergeL ((ms.filter (holdsAt t)).flatMap Tup.lin) []⟩
def dayT:Tup:=⟨[],0,1000000,[]⟩
def gPts (always:Bool) (ms:List Tup):List Int:=if always=true then pts (dayT::ms)else pts ms
def gHas (always:Bool) (ms:List Tup) (t:Int):Bool:=always||ms.any (holdsAt t)
def gUpto (aggV:List (List Val)→List Val) (always:Bool) (P:List Int) (kv:List Val) (ms:List Tup):Nat→List Tup
 |0=> []
 |k+1=>gUpto aggV always P kv ms k++if gHas always ms P[k]! = true then [tupOf (gRow aggV kv ms P[k]!) ⟨P[k]!,P[k+1]!⟩]else []
def gOut (aggV:List (List Val)→List Val) (always:Bool) (kv:List Val) (ms:List Tup):List Tup:=gUpto aggV always (gPts always ms) kv ms ((gPts always ms).length - 1)
theorem sliceRows_append (a b:List Tup) (t:Int):sliceRows (a++b) t=sliceRows a t++sliceRows b t:=by
 unfold sliceRows
 rw [List.filter_append,List.map_append]
theorem filter_between {P:List Int} (hP:P.Pairwise (· < ·)) {i:Nat} (hi:i+1<P.length) {t:Int} (h1:P[i]! ≤t) (h2:t<P[i+1]!) (l:List Tup) (hb : ∀x∈bnd l,x∈P):l.filter (holdsAt P[i]!)=l.filter (holdsAt t):=List.filter_congr (hold_between hP hi h1 h2 l hb)
theorem bnd_rng (l:List Tup) : ∀x∈bnd l,0≤x∧x≤1099511627776:=by
 intro x hx
 unfold bnd at hx
 obtain⟨t,ht,hx⟩:=List.mem_flatMap.1 hx
 split at hx
 ·rename_i hv
  have:=validB_lt hv
  simp at hx
  omega
 ·cases hx
section
open Classical
variable (proj:List Val→List Val) (aggV:List (List Val)→List Val) (always:Bool)
noncomputable def gMem (l:List Tup) (kv:List Val):List Tup:=(clipT l).filter fun t=>decide (proj t.vals=kv)
noncomputable def gKeys (l:List Tup):List (List Val):=if always=true then [[]]else once ((clipT l).map fun t=>proj t.vals)
noncomputable def aggRaw (l:List Tup):List Tup:=(gKeys proj always l).flatMap fun kv=>gOut aggV always kv (gMem proj l kv)
noncomputable def aggT (l:List Tup):List Tup:=normT (aggRaw proj aggV always l)
end
end Go.Proofs.YtkddkbpoefidpaaGreatDoor
namespace Go.Proofs.YtkddkbpoefidpaaGreatDoor
open Go.RowKit
def pairRow (x y:Row):Row:=⟨x.vals++y.vals,mergeL x.lin y.lin⟩
def meetT (x y:Tup):List Tup:=if validT x=true∧validT y=true∧max x.from_ y.from_<min x.to_ y.to_ then [tupOf (pairRow (tupRow x) (tupRow y)) ⟨max x.from_ y.from_,min x.to_ y.to_⟩]else []
def tupD:Tup:=⟨[],0,0,[]⟩
def pairT (a b:List Tup) (p:Pair):Tup:=tupOf (pairRow (tupRow (a.getD p.a tupD)) (tupRow (b.getD p.b tupD))) ⟨p.from_,p.to_⟩
def joinRaw (tr:List Val→Bool) (a b:List Tup):List Tup:=((pairsOf a b).map (pairT a b)).filter fun t=>tr t.vals
theorem drop_head {α:Type} {l m:List α} {k:Nat} {x:α} (h:l.drop k=x::m) (d:α):l.getD k d=x∧l.drop (k+1)=m:=by
 have h1:l[k]?=some x:=by
  have:=congrArg List.head? h
  rw [List.head?_drop]at this
  exact this
 refine⟨by rw [List.getD_eq_getElem?_getD,h1];rfl,?_⟩
 rw [←List.drop_drop,h]
 rfl
theorem raw_inner (a b:List Tup) (i:Nat) (t:Tup) (ht:a.getD i tupD=t) : ∀(l:List Tup) (k:Nat),b.drop k=l→((evs true k l).flatMap (meet ⟨false,i,t.from_,t.to_⟩)).map (pairT a b)=l.flatMap (meetT t):=by
 intro l
 induction l with
 |nil=>intro k _;rfl
 |cons y l ih =>
  intro k hk
  obtain⟨h1,h2⟩:=drop_head hk tupD
  rw [evs,List.flatMap_cons,List.map_append,List.flatMap_cons,ih (k+1) h2]
  congr 1
  unfold meet meetT
  have e:((false:Bool)≠true∧okEv ⟨false,i,t.from_,t.to_⟩=true∧okEv ⟨true,k,y.from_,y.to_⟩=true∧max t.from_ y.from_<min t.to_ y.to_)↔(validT t=true∧validT y=true∧max t.from_ y.from_<min t.to_ y.to_):=by
   constructor
   ·rintro⟨_,g⟩;exact g
   ·exact fun g=>⟨by decide,g⟩
  by_cases c:validT t=true∧validT y=true∧max t.from_ y.from_<min t.to_ y.to_
  ·rw [if_pos (e.2 c),if_pos c,List.map_cons,List.map_nil]
   unfold pairT mkPair
   simp only [Bool.false_eq_true,if_false,ht,h1]
  ·rw [if_neg (fun g=>c (e.1 g)),if_neg c]
   rfl
theorem raw_join (a b:List Tup):(rawPairs a b).map (pairT a b)=a.flatMap fun x=>b.flatMap (meetT x):=by
 have h : ∀(l:List Tup) (k:Nat),a.drop k=l→((evs false k l).flatMap fun x=>(evs true 0 b).flatMap (meet x)).map (pairT a b)=l.flatMap fun x=>b.flatMap (meetT x):=by
  intro l
  induction l with
  |nil=>intro k _;rfl
  |cons t l ih =>
   intro k hk
   obtain⟨h1,h2⟩:=drop_head hk tupD
   rw [evs,List.flatMap_cons,List.map_append,List.flatMap_cons,ih (k+1) h2,raw_inner a b k t h1 b 0 rfl]
 exact h a 0 rfl
theorem slice_flatX {α:Type} (ks:List α) (G:α→List Tup) (t:Int):sliceRows (ks.flatMap G) t=ks.flatMap fun r=>sliceRows (G r) t:=by
 induction ks with
 |nil=>rfl
 |cons r ks ih=>rw [List.flatMap_cons,List.flatMap_cons,sliceRows_append,ih]
theorem filter_flat {α β:Type} (p:β→Bool) (f:α→List β) (l:List α):(l.flatMap f).filter p=l.flatMap fun x=>(f x).filter p:=by
 induction l with
 |nil=>rfl
 |cons x l ih=>rw [List.flatMap_cons,List.filter_append,ih,List.flatMap_cons]
theorem flat_filter {α β:Type} (p:α→Bool) (f:α→List β) (l:List α):(l.flatMap fun x=>if p x=true then f x else [])=(l.filter p).flatMap f:=by
 induction l with
 |nil=>rfl
 |cons x l ih =>
  rw [List.flatMap_cons,ih,List.filter_cons]
  split
  ·rw [List.flatMap_cons]
  ·rfl
theorem flat_perm2 {α β:Type} (f g:α→List β) (l:List α):(l.flatMap f++l.flatMap g).Perm (l.flatMap fun x=>f x++g x):=by
 induction l with
 |nil=>exact .refl _
 |cons x l ih =>
  rw [List.flatMap_cons,List.flatMap_cons,List.flatMap_cons]
  have h1:((f x++l.flatMap f)++(g x++l.flatMap g)).Perm ((f x++g x)++(l.flatMap f++l.flatMap g)):=by
   rw [List.append_assoc,List.append_assoc]
   refine List.Perm.append_left _ ?_
   rw [←List.append_assoc,←List.append_assoc]
   exact List.Perm.append_right _ List.perm_append_comm
  exact h1.trans (List.Perm.append_left _ ih)
def joinRow (tr:List Val→Bool) (B:List Row) (x:Row):List Row:=(B.map (pairRow x)).filter fun r=>tr r.vals
def snapJoin (tr:List Val→Bool) (A B:List Row):List Row:=A.flatMap (joinRow tr B)
theorem joinRow_flat (tr:List Val→Bool) (B:List Row) (x:Row):joinRow tr B x=B.flatMap fun y=>if tr (x.vals++y.vals)=true then [pairRow x y]else []:=by
 unfold joinRow
 induction B with
 |nil=>rfl
 |cons y B ih =>
  rw [List.map_cons,List.filter_cons,ih,List.flatMap_cons]
  show (if tr (x.vals++y.vals)=true then _ else _)=_
  split <;> rfl
theorem meet_slice (tr:List Val→Bool) (t:Int) (x y:Tup):sliceRows ((meetT x y).filter fun z=>tr z.vals) t=if holdsAt t x=true then(if holdsAt t y=true then(if tr (x.vals++y.vals)=true then [pairRow (tupRow x) (tupRow y)]else [])else [])else []:=by
 unfold meetT
 by_cases c:validT x=true∧validT y=true∧max x.from_ y.from_<min x.to_ y.to_
 ·rw [if_pos c]
  have hvx:=validB_lt (show validB x.from_ x.to_=true from c.1)
  have hvy:=validB_lt (show validB y.from_ y.to_=true from c.2.1)
  have hv:validT (tupOf (pairRow (tupRow x) (tupRow y)) ⟨max x.from_ y.from_,min x.to_ y.to_⟩)=true:=by
   unfold validT validB tupOf
   simp only [Bool.and_eq_true,decide_eq_true_eq]
   omega
  have hh:holdsAt t (tupOf (pairRow (tupRow x) (tupRow y)) ⟨max x.from_ y.from_,min x.to_ y.to_⟩)=(holdsAt t x&&holdsAt t y):=by
   unfold holdsAt
   rw [hv,c.1,c.2.1,Bool.true_and,Bool.true_and,Bool.true_and,Bool.eq_iff_iff]
   unfold tupOf
   simp only [Bool.and_eq_true,decide_eq_true_eq]
   omega
  rw [List.filter_cons,List.filter_nil]
  show sliceRows (if tr (x.vals++y.vals)=true then _ else _) t=_
  unfold sliceRows
  by_cases c3:tr (x.vals++y.vals)=true
  ·rw [if_pos c3,List.filter_cons,List.filter_nil,hh,if_pos c3]
   cases holdsAt t x <;> cases holdsAt t y <;> rfl
  ·rw [if_neg c3,if_neg c3]
   cases holdsAt t x <;> cases holdsAt t y <;> rfl
 ·rw [if_neg c]
  by_cases c1:holdsAt t x=true
  ·by_cases c2:holdsAt t y=true
   ·exfalso
    apply c
    unfold holdsAt at c1 c2
    simp only [Bool.and_eq_true,decide_eq_true_eq]at c1 c2
    exact⟨c1.1.1,c2.1.1,by omega⟩
   ·rw [if_pos c1,if_neg c2];rfl
  ·rw [if_neg c1];rfl
theorem slice_flatRow {β:Type} (l:List Tup) (t:Int) (f:Row→List β):(sliceRows l t).flatMap f=(l.filter (holdsAt t)).flatMap fun x=>f (tupRow x):=by
 unfold sliceRows
 rw [List.flatMap_map]
theorem join_rows (tr:List Val→Bool) (a b:List Tup) (t:Int):(sliceRows (joinRaw tr a b) t).Perm (snapJoin tr (sliceRows a t) (sliceRows b t)):=by
 have h1:(joinRaw tr a b).Perm (((rawPairs a b).map (pairT a b)).filter fun t=>tr t.vals):=((pairsOf_perm a b).map _).filter _
 have h2:(sliceRows (joinRaw tr a b) t).Perm (sliceRows (((rawPairs a b).map (pairT a b)).filter fun t=>tr t.vals) t):=(h1.filter _).map _
 refine h2.trans (List.Perm.of_eq ?_)
 rw [raw_join,filter_flat,slice_flatX]
 unfold snapJoin
 rw [slice_flatRow,←flat_filter]
 refine flat_congr fun x _=> ?_
 rw [filter_flat,slice_flatX,joinRow_flat,slice_flatRow,←flat_filter]
 by_cases c:holdsAt t x=true
 ·rw [if_pos c]
  refine flat_congr fun y _=> ?_
  rw [meet_slice,if_pos c]
  rfl
 ·rw [if_neg c]
  rw [List.flatMap_eq_nil_iff]
  intro y _
  rw [meet_slice,if_neg c]
noncomputable def innerT (tr:List Val→Bool) (a b:List Tup):List Tup:=normT (joinRaw tr a b)
theorem joinRow_perm (tr:List Val→Bool) {B B':List Row} (h:B.Perm B') (x:Row):(joinRow tr B x).Perm (joinRow tr B' x):=(h.map _).filter _
theorem flat_permF {α β:Type} {f g:α→List β} (l:List α) (h : ∀x∈l,(f x).Perm (g x)):(l.flatMap f).Perm (l.flatMap g):=by
 induction l with
 |nil=>exact .refl _
 |cons x l ih=>rw [List.flatMap_cons,List.flatMap_cons];exact(h x (by simp)).append (ih fun y hy=>h y (by simp [hy]))
theorem snapJoin_perm (tr:List Val→Bool) {A A' B B':List Row} (h:A.Perm A') (k:B.Perm B'):(snapJoin tr A B).Perm (snapJoin tr A' B'):=(h.flatMap_right _).trans (flat_permF _ fun x _=>joinRow_perm tr k x)
def subP1 (tz:Int):Int→List Per→List Per
 |at_,[]=>if at_<tz then [⟨at_,tz⟩]else []
 |at_,q::qs=>if q.to_≤at_∨tz≤q.from_ then subP1 tz at_ qs else(if at_<q.from_ then [⟨at_,q.from_⟩]else [])++subP1 tz q.to_ qs
theorem subP1_ends (tz:Int) : ∀(qs:List Per) (at_:Int),∀p∈subP1 tz at_ qs,at_≤p.from_∧p.from_<p.to_∧p.to_≤tz:=by
 intro qs
 induction qs with
 |nil =>
  intro at_ p hp
  unfold subP1 at hp
  split at hp
  ·rw [List.mem_singleton]at hp;subst hp;simp only;omega
  ·cases hp
 |cons q qs ih =>
  intro at_ p hp
  unfold subP1 at hp
  split at hp
  ·exact ih at_ p hp
  ·rename_i c
   rcases List.mem_append.1 hp with hp | hp
   ·split at hp
    ·rw [List.mem_singleton]at hp;subst hp;simp only;omega
    ·cases hp
   ·have:=ih _ p hp;omega
open Classical in
theorem subP1_at (tz x:Int) : ∀(qs:List Per) (at_:Int),NormPer qs→((subP1 tz at_ qs).filter (perHas x)).length=if at_≤x∧x<tz∧ ¬inPer qs x then 1 else 0:=by
 intro qs
 induction qs with
 |nil =>
  intro at_ _
  unfold subP1
  by_cases c:at_≤x∧x<tz
  ·rw [if_pos (by omega),if_pos ⟨c.1,c.2,inPer_nil⟩,List.filter_cons,List.filter_nil,if_pos (by unfold perHas;simp [c])]
   rfl
  ·have e:(if at_≤x∧x<tz∧ ¬inPer [] x then 1 else 0)=0:=if_neg fun h=>c ⟨h.1,h.2.1⟩
   rw [e]
   split
   ·rw [List.filter_cons,List.filter_nil,if_neg (by unfold perHas;simpa using c)];rfl
   ·rfl
 |cons q qs ih =>
  intro at_ hn
  obtain⟨n1,n2⟩:=hn.head
  have hq:inPer (q::qs) x↔(q.from_≤x∧x<q.to_)∨inPer qs x:=inPer_cons
  have hlater:inPer qs x→q.to_<x:=fun⟨p,hp,h1,_⟩=>by have:=n2 p hp;omega
  unfold subP1
  by_cases c:q.to_≤at_∨tz≤q.from_
  ·rw [if_pos c,ih at_ hn.tail]
   by_cases c2:inPer qs x
   ·rw [if_neg (fun h=>h.2.2 c2),if_neg (fun h=>h.2.2 (hq.2 (.inr c2)))]
   ·by_cases c3:at_≤x∧x<tz
    ·rw [if_pos ⟨c3.1,c3.2,c2⟩,if_pos ⟨c3.1,c3.2,fun h=>by
      rcases hq.1 h with h | h
      ·omega
      ·exact c2 h⟩]
    ·rw [if_neg (fun h=>c3 ⟨h.1,h.2.1⟩),if_neg (fun h=>c3 ⟨h.1,h.2.1⟩)]
  ·rw [if_neg c,List.filter_append,List.length_append,ih q.to_ hn.tail]
   have hone:((if at_<q.from_ then [(⟨at_,q.from_⟩:Per)]else []).filter (perHas x)).length=if at_≤x∧x<q.from_ then 1 else 0:=by
    by_cases c2:at_≤x∧x<q.from_
    ·rw [if_pos c2,if_pos (by omega),List.filter_cons,List.filter_nil,if_pos (by unfold perHas;simp [c2])];rfl
    ·rw [if_neg c2]
     split
     ·rw [List.filter_cons,List.filter_nil,if_neg (by unfold perHas;simpa using c2)];rfl
     ·rfl
   rw [hone]
   by_cases c2:inPer qs x
   ·have:=hlater c2
    rw [if_neg (by omega),if_neg (fun h=>h.2.2 c2),if_neg (fun h=>h.2.2 (hq.2 (.inr c2)))]
   ·by_cases c3:x<q.from_
    ·rw [if_neg (show ¬(q.to_≤x∧x<tz∧ ¬inPer qs x)from fun h=>by omega)]
     by_cases c4:at_≤x
     ·rw [if_pos ⟨c4,c3⟩,if_pos ⟨c4,by omega,fun h=>by
       rcases hq.1 h with h | h
       ·omega
       ·exact c2 h⟩]
     ·rw [if_neg (fun h=>c4 h.1),if_neg (fun h=>c4 h.1)]
    ·rw [if_neg (show ¬(at_≤x∧x<q.from_)from fun h=>c3 h.2)]
     by_cases c4:x<q.to_
     ·rw [if_neg (by omega),if_neg (fun h=>h.2.2 (hq.2 (.inl ⟨by omega,c4⟩)))]
     ·by_cases c5:x<tz
      ·rw [if_pos ⟨by omega,c5,c2⟩,if_pos ⟨by omega,c5,fun h=>by
        rcases hq.1 h with h | h
        ·omega
        ·exact c2 h⟩]
      ·rw [if_neg (fun h=>c5 h.2.1),if_neg (fun h=>c5 h.2.1)]
def subPs (a b:List Per):List Per:=(refNorm a).flatMap fun p=>subP1 p.to_ p.from_ (refNorm b)
theorem refNorm_one (p:Per):refNorm [p]=if validB p.from_ p.to_=true then [p]else []:=by
 unfold refNorm
 rw [List.filter_cons,List.filter_nil]
 split
 ·rfl
 ·rfl
def partners (tr:List Val→Bool) (a b:List Tup) (i:Nat):List Per:=((pairsOf a b).filter fun p=>decide (p.a=i)&&tr (pairT a b p).vals).map fun p=>⟨p.from_,p.to_⟩
def padRow (w:Nat) (r:Row):Row:=⟨r.vals++List.replicate w nV,r.lin⟩
def padAt (tr:List Val→Bool) (w:Nat) (a b:List Tup) (k:Nat):List Tup:=(subPs [tupPer (a.getD k tupD)] (partners tr a b k)).map (tupOf (padRow w (tupRow (a.getD k tupD))))
def padUpto (tr:List Val→Bool) (w:Nat) (a b:List Tup):Nat→List Tup
 |0=> []
 |k+1=>padUpto tr w a b k++padAt tr w a b k
def leftRaw (tr:List Val→Bool) (w:Nat) (a b:List Tup):List Tup:=joinRaw tr a b++padUpto tr w a b a.length
noncomputable def leftT (tr:List Val→Bool) (w:Nat) (a b:List Tup):List Tup:=normT (leftRaw tr w a b)
def padOf (w:Nat) (m:List Row) (x:Row):List Row:=if m.isEmpty=true then [padRow w x]else []
def snapLeft (tr:List Val→Bool) (w:Nat) (A B:List Row):List Row:=A.flatMap fun x=>joinRow tr B x++padOf w (joinRow tr B x) x
theorem pairs_valid {a b:List Tup} {p:Pair} (h:p∈pairsOf a b):validB p.from_ p.to_=true:=by
 obtain⟨x,y,_,_,h3,h4,h5,h6,h7⟩:=rawPairs_iff.1 ((pairsOf_perm a b).mem_iff.1 h)
 have:=validB_lt h6
 have:=validB_lt h7
 unfold validB
 simp only [Bool.and_eq_true,decide_eq_true_eq]
 omega
theorem getD_some {α:Type} {l:List α} {k:Nat} {x d:α} (h:l[k]?=some x):l.getD k d=x:=by rw [List.getD_eq_getElem?_getD,h];rfl
theorem joinRow_none (tr:List Val→Bool) (b:List Tup) (t:Int) (r:Row):(joinRow tr (sliceRows b t) r).isEmpty=false↔ ∃y∈b,holdsAt t y=true∧tr (r.vals++y.vals)=true:=by
 rw [List.isEmpty_eq_false_iff_exists_mem]
 unfold joinRow sliceRows
 constructor
 ·rintro⟨z,hz⟩
  obtain⟨h1,h2⟩:=List.mem_filter.1 hz
  obtain⟨u,hu,rfl⟩:=List.mem_map.1 h1
  obtain⟨y,hy,rfl⟩:=List.mem_map.1 hu
  exact⟨y,(List.mem_filter.1 hy).1,(List.mem_filter.1 hy).2,h2⟩
 ·rintro⟨y,h1,h2,h3⟩
  exact⟨pairRow r (tupRow y),List.mem_filter.2 ⟨List.mem_map.2 ⟨tupRow y,List.mem_map.2 ⟨y,List.mem_filter.2 ⟨h1,h2⟩,rfl⟩,rfl⟩,h3⟩⟩
theorem partners_at (tr:List Val→Bool) (a b:List Tup) (k:Nat) (hk:k<a.length) (t:Int) (hh:holdsAt t a[k]=true):inPer (refNorm (partners tr a b k)) t↔(joinRow tr (sliceRows b t) (tupRow a[k])).isEmpty=false:=by
 rw [(refNorm_law _).2,joinRow_none]
 have hk2:a[k]?=some a[k]:=List.getElem?_eq_getElem hk
 unfold holdsAt at hh
 simp only [Bool.and_eq_true,decide_eq_true_eq]at hh
 constructor
 ·rintro⟨p,hp,h1,h2⟩
  obtain⟨hp1,_⟩:=List.mem_filter.1 hp
  obtain⟨q,hq,rfl⟩:=List.mem_map.1 hp1
  obtain⟨hq1,hq2⟩:=List.mem_filter.1 hq
  simp only [Bool.and_eq_true,decide_eq_true_eq]at hq2
  obtain⟨x,y,g1,g2,g3,g4,g5,g6,g7⟩:=rawPairs_iff.1 ((pairsOf_perm a b).mem_iff.1 hq1)
  have hx:a[k]?=some x:=by rw [←hq2.1];exact g1
  rw [hk2]at hx
  have hxe:=Option.some.inj hx
  simp only at h1 h2
  refine⟨y,List.mem_of_getElem? g2,?_,?_⟩
  ·unfold holdsAt validT
   rw [g7,Bool.true_and]
   simp only [Bool.and_eq_true,decide_eq_true_eq]
   omega
  ·have:=hq2.2
   unfold pairT pairRow tupOf at this
   simp only [getD_some g1,getD_some g2]at this
   rw [hxe]
   exact this
 ·rintro⟨y,h1,h2,h3⟩
  obtain⟨j,hj,rfl⟩:=List.getElem_of_mem h1
  unfold holdsAt at h2
  simp only [Bool.and_eq_true,decide_eq_true_eq]at h2
  have hv1:validB a[k].from_ a[k].to_=true:=hh.1.1
  have hv2:validB b[j].from_ b[j].to_=true:=h2.1.1
  have hj2:b[j]?=some b[j]:=List.getElem?_eq_getElem hj
  have hm:(⟨k,j,max a[k].from_ b[j].from_,min a[k].to_ b[j].to_⟩:Pair)∈pairsOf a b:=(pairsOf_perm a b).mem_iff.2 (rawPairs_iff.2 ⟨a[k],b[j],hk2,hj2,rfl,rfl,by simp only;omega,hv1,hv2⟩)
  refine⟨⟨max a[k].from_ b[j].from_,min a[k].to_ b[j].to_⟩,List.mem_filter.2 ⟨?_,pairs_valid hm⟩,by simp only;omega,by simp only;omega⟩
  refine List.mem_map.2 ⟨_,List.mem_filter.2 ⟨hm,?_⟩,rfl⟩
  simp only [decide_true,Bool.true_and]
  unfold pairT pairRow tupOf
  simp only [getD_some hk2,getD_some hj2]
  exact h3
theorem padAt_slice (tr:List Val→Bool) (w:Nat) (a b:List Tup) (k:Nat) (hk:k<a.length) (t:Int):sliceRows (padAt tr w a b k) t=if holdsAt t a[k]=true then padOf w (joinRow tr (sliceRows b t) (tupRow a[k])) (tupRow a[k])else []:=by
 have hg:a.getD k tupD=a[k]:=getD_some (List.getElem?_eq_getElem hk)
 unfold padAt subPs
 rw [hg,refNorm_one]
 by_cases hv:validB (tupPer a[k]).from_ (tupPer a[k]).to_=true
 ·rw [if_pos hv,List.flatMap_cons,List.flatMap_nil,List.append_nil]
  have hvl:=validB_lt hv
  have e1:sliceRows ((subP1 (tupPer a[k]).to_ (tupPer a[k]).from_ (refNorm (partners tr a b k))).map (tupOf (padRow w (tupRow a[k])))) t=List.replicate ((subP1 (tupPer a[k]).to_ (tupPer a[k]).from_ (refNorm (partners tr a b k))).filter (perHas t)).length (padRow w (tupRow a[k])):=by
   unfold sliceRows
   rw [List.filter_map,List.map_map,show (tupRow∘tupOf (padRow w (tupRow a[k])))=fun _=>padRow w (tupRow a[k])from rfl,List.map_const']
   congr 2
   refine List.filter_congr fun p hp=> ?_
   have hp:=subP1_ends _ _ _ p hp
   have hvp:validB p.from_ p.to_=true:=by
    unfold validB
    simp only [Bool.and_eq_true,decide_eq_true_eq]
    omega
   simp only [Function.comp,holdsAt,validT,tupOf,perHas]
   rw [hvp,Bool.true_and]
   rfl
  have hlen:=subP1_at (tupPer a[k]).to_ t (refNorm (partners tr a b k)) (tupPer a[k]).from_ (refNorm_law _).1
  have hlen1:=fun h=>hlen.trans (if_pos h)
  have hlen0:=fun h=>hlen.trans (if_neg h)
  rw [e1]
  have hpf:(tupPer a[k]).from_=a[k].from_:=rfl
  have hpt:(tupPer a[k]).to_=a[k].to_:=rfl
  have hv':validT a[k]=true:=hv
  have hh:holdsAt t a[k]=true↔(tupPer a[k]).from_≤t∧t<(tupPer a[k]).to_:=by
   unfold holdsAt
   rw [hv',Bool.true_and,hpf,hpt]
   simp only [Bool.and_eq_true,decide_eq_true_eq]
  by_cases c:holdsAt t a[k]=true
  ·have hp:=partners_at tr a b k hk t c
   rw [if_pos c]
   unfold padOf
   obtain⟨c1,c2⟩:=hh.1 c
   cases hm:(joinRow tr (sliceRows b t) (tupRow a[k])).isEmpty with
   |false=>rw [hlen0 (fun h=>h.2.2 (hp.2 hm)),if_neg (by simp)];rfl
   |true=>rw [hlen1 ⟨c1,c2,fun h=>by rw [hp.1 h]at hm;cases hm⟩,if_pos rfl];rfl
  ·rw [hlen0 (fun h=>c (hh.2 ⟨h.1,h.2.1⟩)),if_neg c]
   rfl
 ·rw [if_neg hv]
  have:holdsAt t a[k]=false:=by
   unfold holdsAt
   have:validT a[k]=false:=by simpa using (show ¬validT a[k]=true from hv)
   rw [this]
   rfl
  rw [this]
  rfl
theorem padUpto_slice (tr:List Val→Bool) (w:Nat) (a b:List Tup) (t:Int) (k:Nat) (hk:k≤a.length):sliceRows (padUpto tr w a b k) t=((a.take k).filter (holdsAt t)).flatMap fun x=>padOf w (joinRow tr (sliceRows b t) (tupRow x)) (tupRow x):=by
 induction k with
 |zero=>rfl
 |succ k ih =>
  rw [padUpto,sliceRows_append,ih (by omega),padAt_slice tr w a b k (by omega),List.take_succ_eq_append_getElem (by omega),List.filter_append,List.flatMap_append]
  congr 1
  rw [List.filter_cons,List.filter_nil]
  split
  ·rw [List.flatMap_cons,List.flatMap_nil,List.append_nil]
  ·rfl
theorem leftRaw_rows (tr:List Val→Bool) (w:Nat) (a b:List Tup) (t:Int):(sliceRows (leftRaw tr w a b) t).Perm (snapLeft tr w (sliceRows a t) (sliceRows b t)):=by
 unfold leftRaw snapLeft
 rw [sliceRows_append,padUpto_slice tr w a b t a.length (Nat.le_refl _),List.take_length]
 have h1:=join_rows tr a b t
 unfold snapJoin at h1
 refine(h1.append_right _).trans ?_
 rw [←slice_flatRow (f:=fun x=>padOf w (joinRow tr (sliceRows b t) x) x)]
 exact flat_perm2 _ _ _
theorem padOf_perm (w:Nat) {m m':List Row} (h:m.Perm m') (x:Row):padOf w m x=padOf w m' x:=by
 unfold padOf
 rw [h.isEmpty_eq]
theorem snapLeft_perm (tr:List Val→Bool) (w:Nat) {A A' B B':List Row} (h:A.Perm A') (k:B.Perm B'):(snapLeft tr w A B).Perm (snapLeft tr w A' B') :=
 (h.flatMap_right _).trans (flat_permF _ fun x _=>by
  have h1:=joinRow_perm tr k x
  rw [padOf_perm w h1 x]
  exact h1.append_right _)
def cutT (t:Tup):Int→List Int→List Tup
 |from_,[]=> [⟨t.vals,from_,t.to_,t.lin⟩]
 |from_,p::ps=>if t.to_≤p then [⟨t.vals,from_,t.to_,t.lin⟩]else if from_<p then⟨t.vals,from_,p,t.lin⟩::cutT t p ps else cutT t from_ ps
def splitT (l:List Tup) (P:List Int):List Tup:=l.flatMap fun t=>if validT t=true then cutT t t.from_ P else []
theorem cutT_slice (t:Tup) (x:Int) : ∀(P:List Int) (f:Int),validB f t.to_=true→sliceRows (cutT t f P) x=if f≤x∧x<t.to_ then [tupRow t]else []:=by
 have hone : ∀f g:Int,validB f g=true→sliceRows [⟨t.vals,f,g,t.lin⟩] x=if f≤x∧x<g then [tupRow t]else []:=fun f g h=>by
  unfold sliceRows
  rw [List.filter_cons,List.filter_nil]
  have e:holdsAt x ⟨t.vals,f,g,t.lin⟩=(decide (f≤x)&&decide (x<g)):=by
   unfold holdsAt validT
   simp only
   rw [h,Bool.true_and]
  rw [e]
  by_cases c:f≤x∧x<g
  ·rw [if_pos c,if_pos (by simp [c])];rfl
  ·rw [if_neg c,if_neg (by simpa using c)];rfl
 intro P
 induction P with
 |nil=>intro f h;exact hone f _ h
 |cons p P ih =>
  intro f h
  have hv:=validB_lt h
  unfold cutT
  split
  ·exact hone f _ h
  split
  ·rename_i c1 c2
   have v1:validB f p=true:=by unfold validB;simp only [Bool.and_eq_true,decide_eq_true_eq];omega
   have v2:validB p t.to_=true:=by unfold validB;simp only [Bool.and_eq_true,decide_eq_true_eq];omega
   have e:sliceRows (⟨t.vals,f,p,t.lin⟩::cutT t p P) x=sliceRows [⟨t.vals,f,p,t.lin⟩] x++sliceRows (cutT t p P) x:=sliceRows_append [_] _ x
   rw [e,hone f p v1,ih p v2]
   by_cases a1:f≤x∧x<p
   ·rw [if_pos a1,if_neg (by omega),if_pos (by omega)];rfl
   ·rw [if_neg a1]
    by_cases a2:p≤x∧x<t.to_
    ·rw [if_pos a2,if_pos (by omega)];rfl
    ·rw [if_neg a2,if_neg (by omega)];rfl
  ·exact ih f h
theorem split_slice (l:List Tup) (P:List Int) (x:Int):sliceRows (splitT l P) x=sliceRows l x:=by
 unfold splitT
 rw [slice_flatX]
 induction l with
 |nil=>rfl
 |cons t l ih =>
  rw [List.flatMap_cons,ih]
  have e:sliceRows (t::l) x=sliceRows [t] x++sliceRows l x:=sliceRows_append [t] l x
  rw [e]
  congr 1
  cases hv:validT t with
  |false =>
   rw [if_neg (by simp)]
   unfold sliceRows holdsAt
   rw [List.filter_cons,hv]
   rfl
  |true =>
   rw [if_pos rfl,cutT_slice t x P _ hv]
   unfold sliceRows
   rw [List.filter_cons,List.filter_nil]
   unfold holdsAt
   rw [hv,Bool.true_and]
   by_cases c:t.from_≤x∧x<t.to_
   ·rw [if_pos c,if_pos (by simp [c])];rfl
   ·rw [if_neg c,if_neg (by simpa using c)];rfl
end Go.Proofs.YtkddkbpoefidpaaGreatDoor
