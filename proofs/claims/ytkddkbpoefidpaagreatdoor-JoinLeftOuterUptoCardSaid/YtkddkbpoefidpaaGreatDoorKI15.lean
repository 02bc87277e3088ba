/- joined texts of a proof: StabC, StabY -/
import Derived.Test.YtkddkbpoefidpaaGreatDoorKI14
import Derived.Shelf.SlSortCmp.QuietGrown
import Derived.Shelf.SlSortCmp.NoneTotal
import Derived.Test.YtkddkbpoefidpaaGreatDoorKI06
namespace Go.Proofs.YtkddkbpoefidpaaGreatDoor
open Go.RowKit Go.Shelf Go.Sort
theorem swk_test (gq blk N:Nat) (d0 dk:Array Ev) (w0 wr:World) (R:RowK evEnc 3 w0 blk 0 d0) (HC:CmpLays Tryz.prog gq #[] evEnc 3 cmpEv blk 0 N w0) (hd0:d0.size=N) (hdk:dk.size=N) (S:SWK evEnc 3 w0 blk 0 dk wr) (x y:Nat) (hx:x<N) (hy:y<N) :
  ∃f1 s1 i1 f2 s2 i2 c:Int,((c<0→ltOf cmpEv dk[x]! dk[y]! = true)∧(¬c<0→ltOf cmpEv dk[x]! dk[y]! = false)) ∧
   (∀n os,(grow (wr.drewN n) os).cell? ⟨blk,x*3,none⟩=some (.int .i64 f1))∧(∀n os,(grow (wr.drewN n) os).cell? ⟨blk,x*3+1,none⟩=some (.int .i64 s1))∧(∀n os,(grow (wr.drewN n) os).cell? ⟨blk,x*3+2,none⟩=some (.int .i64 i1)) ∧
   (∀n os,(grow (wr.drewN n) os).cell? ⟨blk,y*3,none⟩=some (.int .i64 f2))∧(∀n os,(grow (wr.drewN n) os).cell? ⟨blk,y*3+1,none⟩=some (.int .i64 s2))∧(∀n os,(grow (wr.drewN n) os).cell? ⟨blk,y*3+2,none⟩=some (.int .i64 i2)) ∧
   ∀n os,Calls Tryz.prog gq #[.agg #[.int .i64 f1,.int .i64 s1,.int .i64 i1],.agg #[.int .i64 f2,.int .i64 s2,.int .i64 i2]] (grow (wr.drewN n) os) fun e w'=>e = .returned (.int .i64 c)∧ ∃q os',w'=grow ((grow (wr.drewN n) os).drewN q) os':=by
 have hx':=fun n os=>ev_cell ((S.grown n os).holds R.hblk R.hH (by omega)) x (by omega)
 have hy':=fun n os=>ev_cell ((S.grown n os).holds R.hblk R.hH (by omega)) y (by omega)
 refine⟨_,_,_,_,_,_,cmpEv dk[x]! dk[y]!,⟨fun h=>decide_eq_true h,fun h=>decide_eq_false h⟩,fun n os=>(hx' n os).1,fun n os=>(hx' n os).2.1,fun n os=>(hx' n os).2.2,fun n os=>(hy' n os).1,fun n os=>(hy' n os).2.1,fun n os=>(hy' n os).2.2,fun n os=>S.cmp HC hdk dk[x]! dk[y]! n os⟩
theorem sym_parts {d d1:Array Ev} {a m b mid nn p s e:Nat} (h1:SortedIn (ltOf cmpEv) a m d) (h2:SortedIn (ltOf cmpEv) m b d) (F:mid=(a+b) / 2∧nn=mid+m∧p=nn - 1∧e=nn - s)
  (hs:a<m∧m<b) (hr:a≤s∧s≤m∧s≤mid∧m≤e∧e≤b) (I:((s=a∨e=b)∨ltOf cmpEv d[p - (s - 1)]! d[s - 1]! = false)∧((s=m∨s=mid)∨ltOf cmpEv d[p - s]! d[s]! = true)) (hrot:RotOf d d1 s (m - s) (e - m)) :
  SortedIn (ltOf cmpEv) a s d1∧SortedIn (ltOf cmpEv) s mid d1∧SortedIn (ltOf cmpEv) mid e d1∧SortedIn (ltOf cmpEv) e b d1∧ ∀i j,a≤i→i<mid→mid≤j→j<b→ltOf cmpEv d1[j]! d1[i]! = false:=by
 have hx:=rot_parts swo_ev h1 h2 (s:=s) (e:=e) (by omega) (by omega) (by omega) (by omega) hrot ?_ ?_
 ·rw [show s+(e - m)=mid by omega]at hx
  exact hx
 ·rcases I.1 with h | h
  ·omega
  ·by_cases h0:s=0
   ·omega
   ·exact .inr (.inr (by rwa [show p - (s - 1)=e by omega]at h))
 ·rcases I.2 with h | h
  ·omega
  ·by_cases h0:e=m
   ·exact .inr (.inl h0)
   ·exact .inr (.inr (by rwa [show p - s=e - 1 by omega]at h))
set_option maxRecDepth 100000 in
set_option maxHeartbeats 16000000 in
theorem symMerge_ev (gq blk cap N:Nat) (d0:Array Ev) (w0:World) (eg : ∀args w,(callFunc gq args).run Tryz.prog w = .ok (.enter gq args) w) (R:RowK evEnc 3 w0 blk 0 d0) (hd0:d0.size=N) (hC:CmpLays Tryz.prog gq #[] evEnc 3 cmpEv blk 0 N w0) (hsz:N≤1048576) :
  ∀(F a m b:Nat) (dk:Array Ev) (w:World),b - a<F→dk.size=N→SWK evEnc 3 w0 blk 0 dk w→a<m→m<b→b≤N→SortedIn (ltOf cmpEv) a m dk→SortedIn (ltOf cmpEv) m b dk →
   Calls Tryz.prog 288 #[.slice (some ⟨blk,0,none⟩) N cap,.int .i64 a,.int .i64 m,.int .i64 b,.func (.func gq) #[] #[]] w fun e w'=>e = .returned (.tuple #[])∧ ∃d',PermIn a b dk d'∧SortedIn (ltOf cmpEv) a b d'∧SWK evEnc 3 w0 blk 0 d' w':=by
 intro F
 induction F with
 |zero=>intro a m b dk w h;omega
 |succ F ih =>
  intro a m b dk w hF hdk S ham hmb hb h1 h2
  have mixed:=mixedOrd
  have S0:=Lib.hid S
  have HC:=Lib.hid hC
  have SD:=Lib.hid (And.intro h1 h2)
  clear S h1 h2 hC
  go_enter Tryz.func288,Tryz.ntmps288
  by_cases hm1:m=a+1
  ·have e1:(m:Int) - (a:Int)=1:=by omega
   have HM1:=Lib.hid hm1
   clear hm1
   go_wp2_with fail
   go_loopg [10,11] (b - m) (fun gk vi vj wr=> ∃(i j:Nat),gk=j - i∧vi = .int .i64 i∧vj = .int .i64 j∧m≤i∧i≤j∧j≤b∧Hid ((i=m∨ltOf cmpEv dk[i - 1]! dk[a]! = true)∧(j=b∨ltOf cmpEv dk[j]! dk[a]! = false))∧Hid (SWK evEnc 3 w0 blk 0 dk wr))
   case atStart=>exact⟨m,b,rfl,rfl,rfl,Nat.le_refl _,by omega,Nat.le_refl _,⟨.inl rfl,.inl rfl⟩,S0⟩
   case round =>
    obtain⟨i,j,rfl,rfl,rfl,hi,hij,hj,I1,S1⟩:=hrel
    clear S0
    by_cases hlt0:i<j
    ·have hltz:(i:Int)<(j:Int):=by omega
     obtain⟨h,hh⟩ : ∃h,h=(i+j) / 2:=⟨_,rfl⟩
     have eh:((i:Int)+(j:Int)) / 2=(h:Int):=by omega
     have hh1:i≤h:=by omega
     have hh2:h<j:=by omega
     have HH:=Lib.hid hh
     clear hh
     obtain⟨f1,s1,i1,f2,s2,i2,c,hc,c1,c2,c3,c4,c5,c6,hcm⟩:=swk_test gq blk N d0 dk w0 wr R HC.out hd0 hdk S1.out h a (by omega) (by omega)
     have hX:=Lib.hid hc
     clear hc
     have bx:(h:Int)<(N:Int):=by omega
     have byy:(a:Int)<(N:Int):=by omega
     have px:(0:Int)≤(h:Int):=by omega
     have py:(0:Int)≤(a:Int):=by omega
     have rx:IntKind.i64.wrap (h:Int)=(h:Int):=by rw [IntKind.wrap_i64];omega
     have ry:IntKind.i64.wrap (a:Int)=(a:Int):=by rw [IntKind.wrap_i64];omega
     by_cases hlt:c<0
     ·have hd:decide (c<0)=true:=decide_eq_true hlt
      have HL:=Lib.hid (hX.out.1 hlt)
      clear hlt hX
      go_wp2_with fail
      go_quiet_grown (first | (go_at_fn gq;refine Calls.grown_of (hcm _ _)))
      have S2:=Lib.hid (S1.out.grown nq osq)
      clear c1 c2 c3 c4 c5 c6 hcm S1
      generalize grow (wr.drewN nq) osq=w2 at S2 ⊢
      clear nq osq
      go_wp2_with fail
      go_roundg (j - (h+1))
      case measure=>have:=HH.out;omega
      case rel=>exact⟨h+1,j,rfl,by simp,rfl,by omega,by omega,hj,⟨.inr (by simpa using HL.out),I1.out.2⟩,S2⟩
     ·have hd:decide (c<0)=false:=decide_eq_false hlt
      have HL:=Lib.hid (hX.out.2 hlt)
      clear hlt hX
      go_wp2_with fail
      go_quiet_grown (first | (go_at_fn gq;refine Calls.grown_of (hcm _ _)))
      have S2:=Lib.hid (S1.out.grown nq osq)
      clear c1 c2 c3 c4 c5 c6 hcm S1
      generalize grow (wr.drewN nq) osq=w2 at S2 ⊢
      clear nq osq
      go_wp2_with fail
      go_roundg (h - i)
      case measure=>have:=HH.out;omega
      case rel=>exact⟨i,h,rfl,rfl,rfl,hi,by omega,by omega,⟨I1.out.1,.inr HL.out⟩,S2⟩
    ·have hltz : ¬(i:Int)<(j:Int):=by omega
     have hje:j=i:=by omega
     subst hje
     obtain⟨wA,hwA⟩ : ∃u,u=wr:=⟨_,rfl⟩
     subst hwA
     obtain⟨u,hu⟩ : ∃u,u=j - 1:=⟨_,rfl⟩
     have eu:(j:Int) - 1=(u:Int):=by omega
     have hau:a≤u:=by omega
     have HU:=Lib.hid hu
     have huN:u<N:=by omega
     clear hu
     go_wp2_with fail
     go_loopg [13] (u - a) (fun gk vk wr=> ∃(k:Nat) (dj:Array Ev),gk=u - k∧vk = .int .i64 k∧a≤k∧k≤u∧dj.size=N∧Hid (RotOf dk dj a 1 (k - a))∧Hid (PermIn a b dk dj)∧Hid (SWK evEnc 3 w0 blk 0 dj wr))
     case atStart=>exact⟨a,dk,rfl,rfl,Nat.le_refl _,by omega,hdk,by rw [Nat.sub_self];exact RotOf.none_right dk a 1,permIn_refl dk a b,S1⟩
     case round =>
      obtain⟨k,dj,rfl,rfl,hak,hku,hdj,T1,Q1,S3⟩:=hrel
      clear S1
      by_cases hlt1:k<u
      ·have hltz1:(k:Int)<(u:Int):=by omega
       obtain⟨v,hv⟩ : ∃v,v=k+1:=⟨_,rfl⟩
       have ev:(k:Int)+1=(v:Int):=by omega
       have hkv:k<v:=by omega
       have hvu:v≤u:=by omega
       have HV:=Lib.hid hv
       clear hv
       obtain⟨f1,s1,i1,f2,s2,i2,c1,c2,c3,c4,c5,c6,r1,r2,r3,r4,r5,r6,S2⟩:=swk_exch blk N d0 dj w0 wr R hd0 hdj S3.out k v (by omega) (by omega)
       clear S3
       have q1 : ¬k*3=v*3:=by omega
       have q2 : ¬k*3+1=v*3+1:=by omega
       have q3 : ¬k*3+2=v*3+2:=by omega
       have q4 : ¬k*3=v*3+1:=by omega
       have q5 : ¬k*3=v*3+2:=by omega
       have q6 : ¬k*3+1=v*3:=by omega
       have q7 : ¬k*3+1=v*3+2:=by omega
       have q8 : ¬k*3+2=v*3:=by omega
       have q9 : ¬k*3+2=v*3+1:=by omega
       go_wp2_with fail
       go_big_region_o
       all_goals go_wp2_with fail
       all_goals go_roundg (u - v)
       all_goals first
        |(case measure=>have:=HV.out;omega)
        |(case rel =>
          refine⟨v,swp dj k v,rfl,rfl,by omega,hvu,by rw [size_swp];exact hdj,?_,?_,S2.out⟩
          ·   have:=RotOf.up T1.out hak (by have:=HV.out;omega)
              rw [HV.out]
              exact this
          ·   exact permIn_trans _ _ _ _ _ Q1.out (swp_permIn _ _ _ _ _ (by omega) (by have:=HU.out;omega) (by omega) (by have:=HU.out;omega) (by omega)))
      ·have hltz1 : ¬(k:Int)<(u:Int):=by omega
       have hke:k=u:=by omega
       subst hke
       go_wp2_with fail
       first |go_end0 | refine bodyPost_ret (results_none rfl _ _ _) rfl ?_
       refine⟨rfl,dj,Q1.out,?_,S3.out⟩
       have h1:=I1.out
       have h2:=SD.out
       have hm1:=HM1.out
       have hu:=HU.out
       subst hm1
       refine rot_first swo_ev h2.2 (e:=j) (by omega) hj (by rw [show j - (a+1)=k - a by omega];exact T1.out) ?_ h1.2
       rcases h1.1 with h | h
       ·exact .inl h
       ·exact .inr h
  ·have e1:((m:Int) - (a:Int)==1)=false:=by simp;omega
   by_cases hm2:m+1=b
   ·have e2:(b:Int) - (m:Int)=1:=by omega
    have HM1:=Lib.hid hm2
    clear hm2
    go_wp2_with fail
    go_loopg [14,15] (m - a) (fun gk vi vj wr=> ∃(i j:Nat),gk=j - i∧vi = .int .i64 i∧vj = .int .i64 j∧a≤i∧i≤j∧j≤m∧Hid ((i=a∨ltOf cmpEv dk[m]! dk[i - 1]! = false)∧(j=m∨ltOf cmpEv dk[m]! dk[j]! = true))∧Hid (SWK evEnc 3 w0 blk 0 dk wr))
    case atStart=>exact⟨a,m,rfl,rfl,rfl,Nat.le_refl _,by omega,Nat.le_refl _,⟨.inl rfl,.inl rfl⟩,S0⟩
    case round =>
     obtain⟨i,j,rfl,rfl,rfl,hi,hij,hj,I1,S1⟩:=hrel
     clear S0
     by_cases hlt0:i<j
     ·have hltz:(i:Int)<(j:Int):=by omega
      obtain⟨h,hh⟩ : ∃h,h=(i+j) / 2:=⟨_,rfl⟩
      have eh:((i:Int)+(j:Int)) / 2=(h:Int):=by omega
      have hh1:i≤h:=by omega
      have hh2:h<j:=by omega
      have HH:=Lib.hid hh
      clear hh
      obtain⟨f1,s1,i1,f2,s2,i2,c,hc,c1,c2,c3,c4,c5,c6,hcm⟩:=swk_test gq blk N d0 dk w0 wr R HC.out hd0 hdk S1.out m h (by omega) (by omega)
      have hX:=Lib.hid hc
      clear hc
      have bx:(m:Int)<(N:Int):=by omega
      have byy:(h:Int)<(N:Int):=by omega
      have px:(0:Int)≤(m:Int):=by omega
      have py:(0:Int)≤(h:Int):=by omega
      have rx:IntKind.i64.wrap (m:Int)=(m:Int):=by rw [IntKind.wrap_i64];omega
      have ry:IntKind.i64.wrap (h:Int)=(h:Int):=by rw [IntKind.wrap_i64];omega
      by_cases hlt:c<0
      ·have hd:decide (c<0)=true:=decide_eq_true hlt
       have HL:=Lib.hid (hX.out.1 hlt)
       clear hlt hX
       go_wp2_with fail
       go_quiet_grown (first | (go_at_fn gq;refine Calls.grown_of (hcm _ _)))
       have S2:=Lib.hid (S1.out.grown nq osq)
       clear c1 c2 c3 c4 c5 c6 hcm S1
       generalize grow (wr.drewN nq) osq=w2 at S2 ⊢
       clear nq osq
       go_wp2_with fail
       go_roundg (h - i)
       case measure=>have:=HH.out;omega
       case rel=>exact⟨i,h,rfl,rfl,rfl,hi,by omega,by omega,⟨I1.out.1,.inr HL.out⟩,S2⟩
      ·have hd:decide (c<0)=false:=decide_eq_false hlt
       have HL:=Lib.hid (hX.out.2 hlt)
       clear hlt hX
       go_wp2_with fail
       go_quiet_grown (first | (go_at_fn gq;refine Calls.grown_of (hcm _ _)))
       have S2:=Lib.hid (S1.out.grown nq osq)
       clear c1 c2 c3 c4 c5 c6 hcm S1
       generalize grow (wr.drewN nq) osq=w2 at S2 ⊢
       clear nq osq
       go_wp2_with fail
       go_roundg (j - (h+1))
       case measure=>have:=HH.out;omega
       case rel=>exact⟨h+1,j,rfl,by simp,rfl,by omega,by omega,hj,⟨.inr (by simpa using HL.out),I1.out.2⟩,S2⟩
     ·have hltz : ¬(i:Int)<(j:Int):=by omega
      have hje:j=i:=by omega
      subst hje
      obtain⟨wA,hwA⟩ : ∃u,u=wr:=⟨_,rfl⟩
      subst hwA
      go_wp2_with fail
      go_loopg [17] (m - j) (fun gk vk wr=> ∃(k:Nat) (dj:Array Ev),gk=k - j∧vk = .int .i64 k∧j≤k∧k≤m∧dj.size=N∧Hid (RotOf dk dj k (m - k) 1)∧Hid (PermIn a b dk dj)∧Hid (SWK evEnc 3 w0 blk 0 dj wr))
      case atStart=>exact⟨m,dk,rfl,rfl,hj,Nat.le_refl _,hdk,by rw [Nat.sub_self];exact RotOf.none_left dk m 1,permIn_refl dk a b,S1⟩
      case round =>
       obtain⟨k,dj,rfl,rfl,hjk,hkm,hdj,T1,Q1,S3⟩:=hrel
       clear S1
       by_cases hlt1:j<k
       ·have hltz1:(j:Int)<(k:Int):=by omega
        obtain⟨v,hv⟩ : ∃v,v=k - 1:=⟨_,rfl⟩
        have ev:(k:Int) - 1=(v:Int):=by omega
        have hkv:v<k:=by omega
        have hvj:j≤v:=by omega
        have HV:=Lib.hid hv
        clear hv
        obtain⟨f1,s1,i1,f2,s2,i2,c1,c2,c3,c4,c5,c6,r1,r2,r3,r4,r5,r6,S2⟩:=swk_exch blk N d0 dj w0 wr R hd0 hdj S3.out k v (by omega) (by omega)
        clear S3
        have q1 : ¬k*3=v*3:=by omega
        have q2 : ¬k*3+1=v*3+1:=by omega
        have q3 : ¬k*3+2=v*3+2:=by omega
        have q4 : ¬k*3=v*3+1:=by omega
        have q5 : ¬k*3=v*3+2:=by omega
        have q6 : ¬k*3+1=v*3:=by omega
        have q7 : ¬k*3+1=v*3+2:=by omega
        have q8 : ¬k*3+2=v*3:=by omega
        have q9 : ¬k*3+2=v*3+1:=by omega
        go_wp2_with fail
        go_big_region_o
        all_goals go_wp2_with fail
        all_goals go_roundg (v - j)
        all_goals first
         |(case measure=>have:=HV.out;omega)
         |(case rel =>
              refine⟨v,swp dj k v,rfl,rfl,hvj,by omega,by rw [size_swp];exact hdj,?_,?_,S2.out⟩
              ·have:=RotOf.down T1.out (by omega) hkm (by omega)
               rw [HV.out]
               exact this
              ·exact permIn_trans _ _ _ _ _ Q1.out (swp_permIn _ _ _ _ _ (by omega) (by omega) (by omega) (by omega) (by omega)))
       ·have hltz1 : ¬(j:Int)<(k:Int):=by omega
        have hke:k=j:=by omega
        subst hke
        go_wp2_with fail
        first |go_end0 | refine bodyPost_ret (results_none rfl _ _ _) rfl ?_
        refine⟨rfl,dj,Q1.out,?_,S3.out⟩
        have h1:=I1.out
        have h2:=SD.out
        have hm1:=HM1.out
        rw [←hm1]
        refine rot_second swo_ev h2.1 (s:=k) hi hj T1.out ?_ h1.2
        rcases h1.1 with h | h
        ·exact .inl h
        ·exact .inr h
   ·have e2:((b:Int) - (m:Int)==1)=false:=by simp;omega
    obtain⟨mid,hmid⟩ : ∃u,u=(a+b) / 2:=⟨_,rfl⟩
    have em:((a:Int)+(b:Int)) / 2=(mid:Int):=by omega
    obtain⟨nn,hnn⟩ : ∃u,u=mid+m:=⟨_,rfl⟩
    have en:(mid:Int)+(m:Int)=(nn:Int):=by omega
    obtain⟨p,hp⟩ : ∃u,u=nn - 1:=⟨_,rfl⟩
    have ep:(nn:Int) - 1=(p:Int):=by omega
    by_cases hmm:mid<m
    ·have hz:(mid:Int)<(m:Int):=by omega
     obtain⟨s0,hs0⟩ : ∃u,u=nn - b:=⟨_,rfl⟩
     have es:(nn:Int) - (b:Int)=(s0:Int):=by omega
     have F0:=Lib.hid (show mid=(a+b) / 2∧nn=mid+m∧p=nn - 1∧s0=nn - b∧ ¬m=a+1∧ ¬m+1=b from ⟨hmid,hnn,hp,hs0,hm1,hm2⟩)
     have hsr:s0≤mid:=by omega
     clear hmid hnn hp hs0
     go_wp2_with fail
     go_loopg [20,21] (mid - s0) (fun gk vi vj wr=> ∃(i j:Nat),gk=j - i∧vi = .int .i64 i∧vj = .int .i64 j∧s0≤i∧i≤j∧j≤mid∧Hid ((i=s0∨ltOf cmpEv dk[p - (i - 1)]! dk[i - 1]! = false)∧(j=mid∨ltOf cmpEv dk[p - j]! dk[j]! = true))∧Hid (SWK evEnc 3 w0 blk 0 dk wr))
     case atStart=>exact⟨s0,mid,rfl,rfl,rfl,Nat.le_refl _,by omega,Nat.le_refl _,⟨.inl rfl,.inl rfl⟩,S0⟩
     case round =>
      obtain⟨i,j,rfl,rfl,rfl,hi,hij,hj,I1,S1⟩:=hrel
      clear S0
      by_cases hlt0:i<j
      ·have hltz:(i:Int)<(j:Int):=by omega
       obtain⟨h,hh⟩ : ∃h,h=(i+j) / 2:=⟨_,rfl⟩
       have eh:((i:Int)+(j:Int)) / 2=(h:Int):=by omega
       have hh1:i≤h:=by omega
       have hh2:h<j:=by omega
       have HH:=Lib.hid hh
       clear hh
       obtain⟨q,hq⟩ : ∃q,q=p - h:=⟨_,rfl⟩
       have hqN:q<N:=by have h1:=F0.out;omega
       have eq1:(p:Int) - (h:Int)=(q:Int):=by have h1:=F0.out;omega
       have hQ:=Lib.hid hq
       clear hq
       obtain⟨f1,s1,i1,f2,s2,i2,c,hc,c1,c2,c3,c4,c5,c6,hcm⟩:=swk_test gq blk N d0 dk w0 wr R HC.out hd0 hdk S1.out q h (by omega) (by omega)
       have hX:=Lib.hid hc
       clear hc
       have bx:(q:Int)<(N:Int):=by omega
       have byy:(h:Int)<(N:Int):=by omega
       have px:(0:Int)≤(q:Int):=by omega
       have py:(0:Int)≤(h:Int):=by omega
       have rx:IntKind.i64.wrap (q:Int)=(q:Int):=by rw [IntKind.wrap_i64];omega
       have ry:IntKind.i64.wrap (h:Int)=(h:Int):=by rw [IntKind.wrap_i64];omega
       by_cases hlt:c<0
       ·have hd:decide (c<0)=true:=decide_eq_true hlt
        have HL:=Lib.hid (hX.out.1 hlt)
        clear hlt hX
        go_wp2_with fail
        go_quiet_grown (first | (go_at_fn gq;refine Calls.grown_of (hcm _ _)))
        have S2:=Lib.hid (S1.out.grown nq osq)
        clear c1 c2 c3 c4 c5 c6 hcm S1
        generalize grow (wr.drewN nq) osq=w2 at S2 ⊢
        clear nq osq
        go_wp2_with fail
        go_roundg (h - i)
        case measure=>have:=HH.out;omega
        case rel=>exact⟨i,h,rfl,rfl,rfl,hi,by omega,by omega,⟨I1.out.1,.inr (by have h2:=HL.out;rw [hQ.out]at h2;exact h2)⟩,S2⟩
       ·have hd:decide (c<0)=false:=decide_eq_false hlt
        have HL:=Lib.hid (hX.out.2 hlt)
        clear hlt hX
        go_wp2_with fail
        go_quiet_grown (first | (go_at_fn gq;refine Calls.grown_of (hcm _ _)))
        have S2:=Lib.hid (S1.out.grown nq osq)
        clear c1 c2 c3 c4 c5 c6 hcm S1
        generalize grow (wr.drewN nq) osq=w2 at S2 ⊢
        clear nq osq
        go_wp2_with fail
        go_roundg (j - (h+1))
        case measure=>have:=HH.out;omega
        case rel=>exact⟨h+1,j,rfl,by simp,rfl,by omega,by omega,hj,⟨.inr (by have h2:=HL.out;rw [hQ.out]at h2;simpa using h2),I1.out.2⟩,S2⟩
      ·have hltz : ¬(i:Int)<(j:Int):=by omega
       have hje:j=i:=by omega
       subst hje
       obtain⟨wA,hwA⟩ : ∃u,u=wr:=⟨_,rfl⟩
       subst hwA
       obtain⟨e,he⟩ : ∃e,e=nn - j:=⟨_,rfl⟩
       have ee:(nn:Int) - (j:Int)=(e:Int):=by have h1:=F0.out;omega
       have F:=Lib.hid (show mid=(a+b) / 2∧nn=mid+m∧p=nn - 1∧e=nn - j from by have h1:=F0.out;omega)
       have hi0:a≤j:=by have h1:=F0.out;omega
       have hme:m≤e:=by have h1:=F0.out;omega
       have heb:e≤b:=by have h1:=F0.out;omega
       have hjm:j≤m:=by have h1:=F0.out;omega
       have hjmid:j≤mid:=by have h1:=F0.out;omega
       have I2:=Lib.hid (show ((j=a∨e=b)∨ltOf cmpEv dk[p - (j - 1)]! dk[j - 1]! = false)∧((j=m∨j=mid)∨ltOf cmpEv dk[p - j]! dk[j]! = true)from
        ⟨I1.out.1.elim (fun h=> .inl (by have h1:=F0.out;omega)) .inr,I1.out.2.elim (fun h=> .inl (by have h1:=F0.out;omega)) .inr⟩)
       clear he F0 I1
       by_cases hC:j=mid
       ·have hC1:=Nat.le_of_eq hC
        have hC2:=Nat.le_of_eq hC.symm
        clear hC
        have b1:(j:Int)<(m:Int):=by omega
        have b2 : ¬(m:Int)<(e:Int):=by omega
        obtain⟨d1,hd1e⟩ : ∃u,u=dk:=⟨_,rfl⟩
        have K1:=Lib.hid (show PermIn a b dk d1∧SortedIn (ltOf cmpEv) a j d1∧SortedIn (ltOf cmpEv) j mid d1∧SortedIn (ltOf cmpEv) mid e d1∧SortedIn (ltOf cmpEv) e b d1∧ ∀x y,a≤x→x<mid→mid≤y→y<b→ltOf cmpEv d1[y]! d1[x]! = false from by rw [hd1e];exact⟨permIn_refl dk a b,sym_parts SD.out.1 SD.out.2 F.out ⟨ham,hmb⟩ ⟨hi0,hjm,hjmid,hme,heb⟩ I2.out (by rw [show e - m=0 by omega];exact RotOf.none_right dk j (m - j))⟩)
        have hd1:d1.size=N:=by rw [hd1e];exact hdk
        have SA:=Lib.hid (show SWK evEnc 3 w0 blk 0 d1 wA from by rw [hd1e];exact S1.out)
        clear hd1e
        have f1:(a:Int)<(j:Int):=by omega
        have f2 : ¬(j:Int)<(mid:Int):=by omega
        obtain⟨d2,hd2⟩ : ∃u,u=d1:=⟨_,rfl⟩
        rw [←hd2]at SA
        have SB:=SA
        have K2:=Lib.hid (show PermIn a mid d1 d2∧SortedIn (ltOf cmpEv) a mid d2 from by rw [hd2];exact⟨permIn_refl d1 a mid,by have h1:=F.out;have h2:=K1.out.2.1;rwa [show j=mid by omega]at h2⟩)
        clear hd2
        have g1:(mid:Int)<(e:Int):=by have h1:=F.out;omega
        have g2:(e:Int)<(b:Int):=by have h1:=F.out;omega
        go_wp2_with fail
        refine(ih mid e b d2 _ (by have h1:=F.out;omega) (by rw [K2.out.1.1];exact hd1) SB.out (by omega) (by omega) hb (sorted_perm_out K2.out.1 K1.out.2.2.2.1 (.inr (Nat.le_refl _))) (sorted_perm_out K2.out.1 K1.out.2.2.2.2.1 (.inr (by omega)))).mono ?_
        rintro e4 w4 ⟨rfl,d3,P3,T3,S4⟩
        go_wp2_with fail
        first |go_end0 | refine bodyPost_ret (results_none rfl _ _ _) rfl ?_
        have E:=merge_end (lt:=ltOf cmpEv) (by omega) (by have h1:=F.out;omega) (by have h1:=F.out;omega) K1.out.1 K1.out.2.2.2.2.2 K2.out.1 K2.out.2 P3 T3
        exact⟨rfl,d3,E.1,E.2,S4⟩
       ·have b1:(j:Int)<(m:Int):=by omega
        have b2:(m:Int)<(e:Int):=by omega
        go_wp2_with fail
        refine(rotate_ev gq blk cap j m e N d0 dk w0 _ R hd0 hdk S1.out (by omega) (by omega) (by omega) hsz).mono ?_
        rintro e2 w2 ⟨rfl,d1,W1,Q1,S2⟩
        have K1:=Lib.hid (show PermIn a b dk d1∧SortedIn (ltOf cmpEv) a j d1∧SortedIn (ltOf cmpEv) j mid d1∧SortedIn (ltOf cmpEv) mid e d1∧SortedIn (ltOf cmpEv) e b d1∧ ∀x y,a≤x→x<mid→mid≤y→y<b→ltOf cmpEv d1[y]! d1[x]! = false from ⟨permIn_mono _ _ _ _ _ _ hi0 heb (by omega) Q1,sym_parts SD.out.1 SD.out.2 F.out ⟨ham,hmb⟩ ⟨hi0,hjm,hjmid,hme,heb⟩ I2.out W1⟩)
        have hd1:d1.size=N:=by rw [W1.1];exact hdk
        have SA:=Lib.hid S2
        clear Q1 W1 S2
        by_cases hD:a<j
        ·by_cases hE:e<b
         ·have f1:(a:Int)<(j:Int):=by omega
          have f2:(j:Int)<(mid:Int):=by omega
          go_wp2_with fail
          refine(ih a j mid d1 _ (by have h1:=F.out;omega) hd1 SA.out (by omega) (by omega) (by have h1:=F.out;omega) K1.out.2.1 K1.out.2.2.1).mono ?_
          rintro e3 w3 ⟨rfl,d2,P2,T2,S3⟩
          have K2:=Lib.hid (show PermIn a mid d1 d2∧SortedIn (ltOf cmpEv) a mid d2 from ⟨P2,T2⟩)
          have SB:=Lib.hid S3
          clear P2 T2 S3
          have g1:(mid:Int)<(e:Int):=by have h1:=F.out;omega
          have g2:(e:Int)<(b:Int):=by have h1:=F.out;omega
          go_wp2_with fail
          refine(ih mid e b d2 _ (by have h1:=F.out;omega) (by rw [K2.out.1.1];exact hd1) SB.out (by omega) (by omega) hb (sorted_perm_out K2.out.1 K1.out.2.2.2.1 (.inr (Nat.le_refl _))) (sorted_perm_out K2.out.1 K1.out.2.2.2.2.1 (.inr (by omega)))).mono ?_
          rintro e4 w4 ⟨rfl,d3,P3,T3,S4⟩
          go_wp2_with fail
          first |go_end0 | refine bodyPost_ret (results_none rfl _ _ _) rfl ?_
          have E:=merge_end (lt:=ltOf cmpEv) (by omega) (by have h1:=F.out;omega) (by have h1:=F.out;omega) K1.out.1 K1.out.2.2.2.2.2 K2.out.1 K2.out.2 P3 T3
          exact⟨rfl,d3,E.1,E.2,S4⟩
         ·have f1:(a:Int)<(j:Int):=by omega
          have f2:(j:Int)<(mid:Int):=by omega
          go_wp2_with fail
          refine(ih a j mid d1 _ (by have h1:=F.out;omega) hd1 SA.out (by omega) (by omega) (by have h1:=F.out;omega) K1.out.2.1 K1.out.2.2.1).mono ?_
          rintro e3 w3 ⟨rfl,d2,P2,T2,S3⟩
          have K2:=Lib.hid (show PermIn a mid d1 d2∧SortedIn (ltOf cmpEv) a mid d2 from ⟨P2,T2⟩)
          have SB:=Lib.hid S3
          clear P2 T2 S3
          have g1:(mid:Int)<(e:Int):=by have h1:=F.out;omega
          have g2 : ¬(e:Int)<(b:Int):=by have h1:=F.out;omega
          go_wp2_with fail
          first |go_end0 | refine bodyPost_ret (results_none rfl _ _ _) rfl ?_
          have E:=merge_end (lt:=ltOf cmpEv) (by omega) (by have h1:=F.out;omega) (by have h1:=F.out;omega) K1.out.1 K1.out.2.2.2.2.2 K2.out.1 K2.out.2 (permIn_refl d2 mid b) (sorted_perm_out K2.out.1 (by have h1:=F.out;have h2:=K1.out.2.2.2.1;rwa [show e=b by omega]at h2) (.inr (Nat.le_refl _)))
          exact⟨rfl,d2,E.1,E.2,SB.out⟩
        ·by_cases hE:e<b
         ·have f1 : ¬(a:Int)<(j:Int):=by omega
          have K2:=Lib.hid (show PermIn a mid d1 d1∧SortedIn (ltOf cmpEv) a mid d1 from ⟨permIn_refl d1 a mid,by have h2:=K1.out.2.2.1;rwa [show j=a by omega]at h2⟩)
          obtain⟨d2,hd2⟩ : ∃u,u=d1:=⟨_,rfl⟩
          rw [←hd2]at SA
          have SB:=SA
          have K2:=Lib.hid (show PermIn a mid d1 d2∧SortedIn (ltOf cmpEv) a mid d2 from by rw [hd2];exact K2.out)
          clear hd2
          have g1:(mid:Int)<(e:Int):=by have h1:=F.out;omega
          have g2:(e:Int)<(b:Int):=by have h1:=F.out;omega
          go_wp2_with fail
          refine(ih mid e b d2 _ (by have h1:=F.out;omega) (by rw [K2.out.1.1];exact hd1) SB.out (by omega) (by omega) hb (sorted_perm_out K2.out.1 K1.out.2.2.2.1 (.inr (Nat.le_refl _))) (sorted_perm_out K2.out.1 K1.out.2.2.2.2.1 (.inr (by omega)))).mono ?_
          rintro e4 w4 ⟨rfl,d3,P3,T3,S4⟩
          go_wp2_with fail
          first |go_end0 | refine bodyPost_ret (results_none rfl _ _ _) rfl ?_
          have E:=merge_end (lt:=ltOf cmpEv) (by omega) (by have h1:=F.out;omega) (by have h1:=F.out;omega) K1.out.1 K1.out.2.2.2.2.2 K2.out.1 K2.out.2 P3 T3
          exact⟨rfl,d3,E.1,E.2,S4⟩
         ·have f1 : ¬(a:Int)<(j:Int):=by omega
          have K2:=Lib.hid (show PermIn a mid d1 d1∧SortedIn (ltOf cmpEv) a mid d1 from ⟨permIn_refl d1 a mid,by have h2:=K1.out.2.2.1;rwa [show j=a by omega]at h2⟩)
          obtain⟨d2,hd2⟩ : ∃u,u=d1:=⟨_,rfl⟩
          rw [←hd2]at SA
          have SB:=SA
          have K2:=Lib.hid (show PermIn a mid d1 d2∧SortedIn (ltOf cmpEv) a mid d2 from by rw [hd2];exact K2.out)
          clear hd2
          have g1:(mid:Int)<(e:Int):=by have h1:=F.out;omega
          have g2 : ¬(e:Int)<(b:Int):=by have h1:=F.out;omega
          go_wp2_with fail
          first |go_end0 | refine bodyPost_ret (results_none rfl _ _ _) rfl ?_
          have E:=merge_end (lt:=ltOf cmpEv) (by omega) (by have h1:=F.out;omega) (by have h1:=F.out;omega) K1.out.1 K1.out.2.2.2.2.2 K2.out.1 K2.out.2 (permIn_refl d2 mid b) (sorted_perm_out K2.out.1 (by have h1:=F.out;have h2:=K1.out.2.2.2.1;rwa [show e=b by omega]at h2) (.inr (Nat.le_refl _)))
          exact⟨rfl,d2,E.1,E.2,SB.out⟩
    ·have hz : ¬(mid:Int)<(m:Int):=by omega
     have F0:=Lib.hid (show mid=(a+b) / 2∧nn=mid+m∧p=nn - 1∧ ¬m=a+1∧ ¬m+1=b from ⟨hmid,hnn,hp,hm1,hm2⟩)
     clear hmid hnn hp
     go_wp2_with fail
     go_loopg [20,21] (m - a) (fun gk vi vj wr=> ∃(i j:Nat),gk=j - i∧vi = .int .i64 i∧vj = .int .i64 j∧a≤i∧i≤j∧j≤m∧Hid ((i=a∨ltOf cmpEv dk[p - (i - 1)]! dk[i - 1]! = false)∧(j=m∨ltOf cmpEv dk[p - j]! dk[j]! = true))∧Hid (SWK evEnc 3 w0 blk 0 dk wr))
     case atStart=>exact⟨a,m,rfl,rfl,rfl,Nat.le_refl _,by omega,Nat.le_refl _,⟨.inl rfl,.inl rfl⟩,S0⟩
     case round =>
      obtain⟨i,j,rfl,rfl,rfl,hi,hij,hj,I1,S1⟩:=hrel
      clear S0
      by_cases hlt0:i<j
      ·have hltz:(i:Int)<(j:Int):=by omega
       obtain⟨h,hh⟩ : ∃h,h=(i+j) / 2:=⟨_,rfl⟩
       have eh:((i:Int)+(j:Int)) / 2=(h:Int):=by omega
       have hh1:i≤h:=by omega
       have hh2:h<j:=by omega
       have HH:=Lib.hid hh
       clear hh
       obtain⟨q,hq⟩ : ∃q,q=p - h:=⟨_,rfl⟩
       have hqN:q<N:=by have h1:=F0.out;omega
       have eq1:(p:Int) - (h:Int)=(q:Int):=by have h1:=F0.out;omega
       have hQ:=Lib.hid hq
       clear hq
       obtain⟨f1,s1,i1,f2,s2,i2,c,hc,c1,c2,c3,c4,c5,c6,hcm⟩:=swk_test gq blk N d0 dk w0 wr R HC.out hd0 hdk S1.out q h (by omega) (by omega)
       have hX:=Lib.hid hc
       clear hc
       have bx:(q:Int)<(N:Int):=by omega
       have byy:(h:Int)<(N:Int):=by omega
       have px:(0:Int)≤(q:Int):=by omega
       have py:(0:Int)≤(h:Int):=by omega
       have rx:IntKind.i64.wrap (q:Int)=(q:Int):=by rw [IntKind.wrap_i64];omega
       have ry:IntKind.i64.wrap (h:Int)=(h:Int):=by rw [IntKind.wrap_i64];omega
       by_cases hlt:c<0
       ·have hd:decide (c<0)=true:=decide_eq_true hlt
        have HL:=Lib.hid (hX.out.1 hlt)
        clear hlt hX
        go_wp2_with fail
        go_quiet_grown (first | (go_at_fn gq;refine Calls.grown_of (hcm _ _)))
        have S2:=Lib.hid (S1.out.grown nq osq)
        clear c1 c2 c3 c4 c5 c6 hcm S1
        generalize grow (wr.drewN nq) osq=w2 at S2 ⊢
        clear nq osq
        go_wp2_with fail
        go_roundg (h - i)
        case measure=>have:=HH.out;omega
        case rel=>exact⟨i,h,rfl,rfl,rfl,hi,by omega,by omega,⟨I1.out.1,.inr (by have h2:=HL.out;rw [hQ.out]at h2;exact h2)⟩,S2⟩
       ·have hd:decide (c<0)=false:=decide_eq_false hlt
        have HL:=Lib.hid (hX.out.2 hlt)
        clear hlt hX
        go_wp2_with fail
        go_quiet_grown (first | (go_at_fn gq;refine Calls.grown_of (hcm _ _)))
        have S2:=Lib.hid (S1.out.grown nq osq)
        clear c1 c2 c3 c4 c5 c6 hcm S1
        generalize grow (wr.drewN nq) osq=w2 at S2 ⊢
        clear nq osq
        go_wp2_with fail
        go_roundg (j - (h+1))
        case measure=>have:=HH.out;omega
        case rel=>exact⟨h+1,j,rfl,by simp,rfl,by omega,by omega,hj,⟨.inr (by have h2:=HL.out;rw [hQ.out]at h2;simpa using h2),I1.out.2⟩,S2⟩
      ·have hltz : ¬(i:Int)<(j:Int):=by omega
       have hje:j=i:=by omega
       subst hje
       obtain⟨wA,hwA⟩ : ∃u,u=wr:=⟨_,rfl⟩
       subst hwA
       obtain⟨e,he⟩ : ∃e,e=nn - j:=⟨_,rfl⟩
       have ee:(nn:Int) - (j:Int)=(e:Int):=by have h1:=F0.out;omega
       have F:=Lib.hid (show mid=(a+b) / 2∧nn=mid+m∧p=nn - 1∧e=nn - j from by have h1:=F0.out;omega)
       have hi0:a≤j:=by have h1:=F0.out;omega
       have hme:m≤e:=by have h1:=F0.out;omega
       have heb:e≤b:=by have h1:=F0.out;omega
       have hjm:j≤m:=by have h1:=F0.out;omega
       have hjmid:j≤mid:=by have h1:=F0.out;omega
       have I2:=Lib.hid (show ((j=a∨e=b)∨ltOf cmpEv dk[p - (j - 1)]! dk[j - 1]! = false)∧((j=m∨j=mid)∨ltOf cmpEv dk[p - j]! dk[j]! = true)from
        ⟨I1.out.1.elim (fun h=> .inl (by have h1:=F0.out;omega)) .inr,I1.out.2.elim (fun h=> .inl (by have h1:=F0.out;omega)) .inr⟩)
       clear he F0 I1
       by_cases hA:j=m
       ·have hA1:=Nat.le_of_eq hA
        have hA2:=Nat.le_of_eq hA.symm
        clear hA
        have hem:e=mid:=by have h1:=F.out;omega
        have HEM:=Lib.hid hem
        clear hem
        have b1 : ¬(j:Int)<(m:Int):=by omega
        obtain⟨d1,hd1e⟩ : ∃u,u=dk:=⟨_,rfl⟩
        have K1:=Lib.hid (show PermIn a b dk d1∧SortedIn (ltOf cmpEv) a j d1∧SortedIn (ltOf cmpEv) j mid d1∧SortedIn (ltOf cmpEv) mid e d1∧SortedIn (ltOf cmpEv) e b d1∧ ∀x y,a≤x→x<mid→mid≤y→y<b→ltOf cmpEv d1[y]! d1[x]! = false from by rw [hd1e];exact⟨permIn_refl dk a b,sym_parts SD.out.1 SD.out.2 F.out ⟨ham,hmb⟩ ⟨hi0,hjm,hjmid,hme,heb⟩ I2.out (by rw [show m - j=0 by omega];exact RotOf.none_left dk j (e - m))⟩)
        have hd1:d1.size=N:=by rw [hd1e];exact hdk
        have SA:=Lib.hid (show SWK evEnc 3 w0 blk 0 d1 wA from by rw [hd1e];exact S1.out)
        clear hd1e
        by_cases hB:j<mid
        ·have f1:(a:Int)<(j:Int):=by omega
         have f2:(j:Int)<(mid:Int):=by omega
         go_wp2_with fail
         refine(ih a j mid d1 _ (by have h1:=F.out;omega) hd1 SA.out (by omega) (by omega) (by have h1:=F.out;omega) K1.out.2.1 K1.out.2.2.1).mono ?_
         rintro e3 w3 ⟨rfl,d2,P2,T2,S3⟩
         have K2:=Lib.hid (show PermIn a mid d1 d2∧SortedIn (ltOf cmpEv) a mid d2 from ⟨P2,T2⟩)
         have SB:=Lib.hid S3
         clear P2 T2 S3
         have g1 : ¬(mid:Int)<(e:Int):=by have h1:=F.out;have:=HEM.out;omega
         go_wp2_with fail
         first |go_end0 | refine bodyPost_ret (results_none rfl _ _ _) rfl ?_
         have E:=merge_end (lt:=ltOf cmpEv) (by omega) (by have h1:=F.out;have:=HEM.out;omega) (by have h1:=F.out;have:=HEM.out;omega) K1.out.1 K1.out.2.2.2.2.2 K2.out.1 K2.out.2 (permIn_refl d2 mid b) (sorted_perm_out K2.out.1 (by have h1:=F.out;have h2:=K1.out.2.2.2.2.1;rwa [show e=mid by omega]at h2) (.inr (Nat.le_refl _)))
         exact⟨rfl,d2,E.1,E.2,SB.out⟩
        ·have f1:(a:Int)<(j:Int):=by omega
         have f2 : ¬(j:Int)<(mid:Int):=by omega
         obtain⟨d2,hd2⟩ : ∃u,u=d1:=⟨_,rfl⟩
         rw [←hd2]at SA
         have SB:=SA
         have K2:=Lib.hid (show PermIn a mid d1 d2∧SortedIn (ltOf cmpEv) a mid d2 from by rw [hd2];exact⟨permIn_refl d1 a mid,by have h1:=F.out;have h2:=K1.out.2.1;rwa [show j=mid by omega]at h2⟩)
         clear hd2
         have g1 : ¬(mid:Int)<(e:Int):=by have h1:=F.out;omega
         go_wp2_with fail
         first |go_end0 | refine bodyPost_ret (results_none rfl _ _ _) rfl ?_
         have E:=merge_end (lt:=ltOf cmpEv) (by omega) (by have h1:=F.out;omega) (by have h1:=F.out;omega) K1.out.1 K1.out.2.2.2.2.2 K2.out.1 K2.out.2 (permIn_refl d2 mid b) (sorted_perm_out K2.out.1 (by have h1:=F.out;have h2:=K1.out.2.2.2.2.1;rwa [show e=mid by omega]at h2) (.inr (Nat.le_refl _)))
         exact⟨rfl,d2,E.1,E.2,SB.out⟩
       ·have b1:(j:Int)<(m:Int):=by omega
        have b2:(m:Int)<(e:Int):=by omega
        go_wp2_with fail
        refine(rotate_ev gq blk cap j m e N d0 dk w0 _ R hd0 hdk S1.out (by omega) (by omega) (by omega) hsz).mono ?_
        rintro e2 w2 ⟨rfl,d1,W1,Q1,S2⟩
        have K1:=Lib.hid (show PermIn a b dk d1∧SortedIn (ltOf cmpEv) a j d1∧SortedIn (ltOf cmpEv) j mid d1∧SortedIn (ltOf cmpEv) mid e d1∧SortedIn (ltOf cmpEv) e b d1∧ ∀x y,a≤x→x<mid→mid≤y→y<b→ltOf cmpEv d1[y]! d1[x]! = false from ⟨permIn_mono _ _ _ _ _ _ hi0 heb (by omega) Q1,sym_parts SD.out.1 SD.out.2 F.out ⟨ham,hmb⟩ ⟨hi0,hjm,hjmid,hme,heb⟩ I2.out W1⟩)
        have hd1:d1.size=N:=by rw [W1.1];exact hdk
        have SA:=Lib.hid S2
        clear Q1 W1 S2
        by_cases hD:a<j
        ·by_cases hE:e<b
         ·have f1:(a:Int)<(j:Int):=by omega
          have f2:(j:Int)<(mid:Int):=by omega
          go_wp2_with fail
          refine(ih a j mid d1 _ (by have h1:=F.out;omega) hd1 SA.out (by omega) (by omega) (by have h1:=F.out;omega) K1.out.2.1 K1.out.2.2.1).mono ?_
          rintro e3 w3 ⟨rfl,d2,P2,T2,S3⟩
          have K2:=Lib.hid (show PermIn a mid d1 d2∧SortedIn (ltOf cmpEv) a mid d2 from ⟨P2,T2⟩)
          have SB:=Lib.hid S3
          clear P2 T2 S3
          have g1:(mid:Int)<(e:Int):=by have h1:=F.out;omega
          have g2:(e:Int)<(b:Int):=by have h1:=F.out;omega
          go_wp2_with fail
          refine(ih mid e b d2 _ (by have h1:=F.out;omega) (by rw [K2.out.1.1];exact hd1) SB.out (by omega) (by omega) hb (sorted_perm_out K2.out.1 K1.out.2.2.2.1 (.inr (Nat.le_refl _))) (sorted_perm_out K2.out.1 K1.out.2.2.2.2.1 (.inr (by omega)))).mono ?_
          rintro e4 w4 ⟨rfl,d3,P3,T3,S4⟩
          go_wp2_with fail
          first |go_end0 | refine bodyPost_ret (results_none rfl _ _ _) rfl ?_
          have E:=merge_end (lt:=ltOf cmpEv) (by omega) (by have h1:=F.out;omega) (by have h1:=F.out;omega) K1.out.1 K1.out.2.2.2.2.2 K2.out.1 K2.out.2 P3 T3
          exact⟨rfl,d3,E.1,E.2,S4⟩
         ·have f1:(a:Int)<(j:Int):=by omega
          have f2:(j:Int)<(mid:Int):=by omega
          go_wp2_with fail
          refine(ih a j mid d1 _ (by have h1:=F.out;omega) hd1 SA.out (by omega) (by omega) (by have h1:=F.out;omega) K1.out.2.1 K1.out.2.2.1).mono ?_
          rintro e3 w3 ⟨rfl,d2,P2,T2,S3⟩
          have K2:=Lib.hid (show PermIn a mid d1 d2∧SortedIn (ltOf cmpEv) a mid d2 from ⟨P2,T2⟩)
          have SB:=Lib.hid S3
          clear P2 T2 S3
          have g1:(mid:Int)<(e:Int):=by have h1:=F.out;omega
          have g2 : ¬(e:Int)<(b:Int):=by have h1:=F.out;omega
          go_wp2_with fail
          first |go_end0 | refine bodyPost_ret (results_none rfl _ _ _) rfl ?_
          have E:=merge_end (lt:=ltOf cmpEv) (by omega) (by have h1:=F.out;omega) (by have h1:=F.out;omega) K1.out.1 K1.out.2.2.2.2.2 K2.out.1 K2.out.2 (permIn_refl d2 mid b) (sorted_perm_out K2.out.1 (by have h1:=F.out;have h2:=K1.out.2.2.2.1;rwa [show e=b by omega]at h2) (.inr (Nat.le_refl _)))
          exact⟨rfl,d2,E.1,E.2,SB.out⟩
        ·by_cases hE:e<b
         ·have f1 : ¬(a:Int)<(j:Int):=by omega
          have K2:=Lib.hid (show PermIn a mid d1 d1∧SortedIn (ltOf cmpEv) a mid d1 from ⟨permIn_refl d1 a mid,by have h2:=K1.out.2.2.1;rwa [show j=a by omega]at h2⟩)
          obtain⟨d2,hd2⟩ : ∃u,u=d1:=⟨_,rfl⟩
          rw [←hd2]at SA
          have SB:=SA
          have K2:=Lib.hid (show PermIn a mid d1 d2∧SortedIn (ltOf cmpEv) a mid d2 from by rw [hd2];exact K2.out)
          clear hd2
          have g1:(mid:Int)<(e:Int):=by have h1:=F.out;omega
          have g2:(e:Int)<(b:Int):=by have h1:=F.out;omega
          go_wp2_with fail
          refine(ih mid e b d2 _ (by have h1:=F.out;omega) (by rw [K2.out.1.1];exact hd1) SB.out (by omega) (by omega) hb (sorted_perm_out K2.out.1 K1.out.2.2.2.1 (.inr (Nat.le_refl _))) (sorted_perm_out K2.out.1 K1.out.2.2.2.2.1 (.inr (by omega)))).mono ?_
          rintro e4 w4 ⟨rfl,d3,P3,T3,S4⟩
          go_wp2_with fail
          first |go_end0 | refine bodyPost_ret (results_none rfl _ _ _) rfl ?_
          have E:=merge_end (lt:=ltOf cmpEv) (by omega) (by have h1:=F.out;omega) (by have h1:=F.out;omega) K1.out.1 K1.out.2.2.2.2.2 K2.out.1 K2.out.2 P3 T3
          exact⟨rfl,d3,E.1,E.2,S4⟩
         ·have f1 : ¬(a:Int)<(j:Int):=by omega
          have K2:=Lib.hid (show PermIn a mid d1 d1∧SortedIn (ltOf cmpEv) a mid d1 from ⟨permIn_refl d1 a mid,by have h2:=K1.out.2.2.1;rwa [show j=a by omega]at h2⟩)
          obtain⟨d2,hd2⟩ : ∃u,u=d1:=⟨_,rfl⟩
          rw [←hd2]at SA
          have SB:=SA
          have K2:=Lib.hid (show PermIn a mid d1 d2∧SortedIn (ltOf cmpEv) a mid d2 from by rw [hd2];exact K2.out)
          clear hd2
          have g1:(mid:Int)<(e:Int):=by have h1:=F.out;omega
          have g2 : ¬(e:Int)<(b:Int):=by have h1:=F.out;omega
          go_wp2_with fail
          first |go_end0 | refine bodyPost_ret (results_none rfl _ _ _) rfl ?_
          have E:=merge_end (lt:=ltOf cmpEv) (by omega) (by have h1:=F.out;omega) (by have h1:=F.out;omega) K1.out.1 K1.out.2.2.2.2.2 K2.out.1 K2.out.2 (permIn_refl d2 mid b) (sorted_perm_out K2.out.1 (by have h1:=F.out;have h2:=K1.out.2.2.2.1;rwa [show e=b by omega]at h2) (.inr (Nat.le_refl _)))
          exact⟨rfl,d2,E.1,E.2,SB.out⟩
end Go.Proofs.YtkddkbpoefidpaaGreatDoor
namespace Go.Proofs.YtkddkbpoefidpaaGreatDoor
open Go.RowKit Go.Shelf Go.Sort
def Bk (s lo hi:Nat) (d:Array Ev):Prop:= ∀i j,lo≤i→i<j→j<hi→i / s=j / s→ltOf cmpEv d[j]! d[i]! = false
theorem bk_ins {a b:Nat} {d d':Array Ev} (ha:a % 20=0) (h:Bk 20 0 a d) (p:PermIn a b d d') (s:SortedIn (ltOf cmpEv) a b d'):Bk 20 0 b d':=by
 intro i j hi hij hj e
 by_cases hja:j<a
 ·rw [p.2.1 i (.inl (by omega)),p.2.1 j (.inl hja)];exact h i j hi hij hja e
 ·exact s i j (by omega) hij hj
theorem bk_left {s a m N:Nat} {d:Array Ev} (hs:s=20∨s=40∨s=80∨s=160) (ha:a % (2*s)=0) (h:Bk s a N d) (hm:m=a+s) (hmN:m≤N):SortedIn (ltOf cmpEv) a m d:=by
 intro i j hi hij hj
 refine h i j hi hij (by omega) ?_
 rcases hs with rfl | rfl | rfl | rfl <;> omega
theorem bk_right {s a m b N:Nat} {d:Array Ev} (hs:s=20∨s=40∨s=80∨s=160) (ha:a % (2*s)=0) (h:Bk s a N d) (hm:m=a+s) (hb:b≤a+2*s) (hbN:b≤N):SortedIn (ltOf cmpEv) m b d:=by
 intro i j hi hij hj
 refine h i j (by omega) hij (by omega) ?_
 rcases hs with rfl | rfl | rfl | rfl <;> omega
theorem bk_step {s a b:Nat} {d d':Array Ev} (hs:s=20∨s=40∨s=80∨s=160) (ha:a % (2*s)=0) (h:Bk (2*s) 0 a d) (p:PermIn a b d d') (hd:SortedIn (ltOf cmpEv) a b d'):Bk (2*s) 0 b d':=by
 intro i j hi hij hj e
 by_cases hja:j<a
 ·rw [p.2.1 i (.inl (by omega)),p.2.1 j (.inl hja)];exact h i j hi hij hja e
 ·refine hd i j ?_ hij hj
  rcases hs with rfl | rfl | rfl | rfl <;> omega
theorem bk_rest {s a b N:Nat} {d d':Array Ev} (hab:a≤b) (h:Bk s a N d) (p:PermIn a b d d'):Bk s b N d':=by
 intro i j hi hij hj e
 rw [p.2.1 i (.inr hi),p.2.1 j (.inr (by omega))]
 exact h i j (by omega) hij hj e
theorem bk_stay {s a N:Nat} {d:Array Ev} (hs:s=20∨s=40∨s=80∨s=160) (ha:a % (2*s)=0) (h:Bk (2*s) 0 a d) (k:Bk s a N d) (hN:N≤a+s):Bk (2*s) 0 N d:=by
 intro i j hi hij hj e
 by_cases hja:j<a
 ·exact h i j hi hij hja e
 ·refine k i j ?_ hij hj ?_
  ·rcases hs with rfl | rfl | rfl | rfl <;> omega
  ·rcases hs with rfl | rfl | rfl | rfl <;> omega
theorem bk_all {s N:Nat} {d:Array Ev} (h:Bk s 0 N d) (hN:N≤s):SortedIn (ltOf cmpEv) 0 N d:=fun i j hi hij hj =>
 h i j hi hij hj (by rw [Nat.div_eq_of_lt (by omega),Nat.div_eq_of_lt (by omega)])
theorem bk_zero (s:Nat) (d:Array Ev):Bk s 0 0 d:=fun i j _ _ hj=>by omega
theorem ins_ev (gq blk cap N a b:Nat) (d0 d:Array Ev) (w0 w:World) (eg : ∀args w,(callFunc gq args).run Tryz.prog w = .ok (.enter gq args) w) (R:RowK evEnc 3 w0 blk 0 d0) (hd0:d0.size=N) (hd:d.size=N) (hC:CmpLays Tryz.prog gq #[] evEnc 3 cmpEv blk 0 N w0) (hsz:N≤1048576) (S:SWK evEnc 3 w0 blk 0 d w) (hab:a≤b) (hb:b≤N) :
  Calls Tryz.prog 287 #[.slice (some ⟨blk,0,none⟩) N cap,.int .i64 a,.int .i64 b,.func (.func gq) #[] #[]] w fun e w'=>e = .returned (.tuple #[])∧ ∃d',PermIn a b d d'∧SortedIn (ltOf cmpEv) a b d'∧SWK evEnc 3 w0 blk 0 d' w':=by
 have h:=AnyQ.insertionSortCmpFunc_w Tryz.insEv 3 ev_agg ev_size evEnc cmpEv gq #[] blk 0 cap a b d0 d w0 w eg (by rw [hd0];exact hC) R (by omega) S swo_ev hab (by omega) (by omega)
 rw [hd]at h
 refine h.mono ?_
 rintro e w' ⟨rfl,h1⟩
 have h2:=insertionSort_holds swo_ev d a b hab (by omega)
 exact⟨rfl,_,h2.1,h2.2,h1⟩
set_option maxRecDepth 100000 in
set_option maxHeartbeats 4000000 in
theorem stable_ev (gq blk cap N:Nat) (d:Array Ev) (w0:World) (eg : ∀args w,(callFunc gq args).run Tryz.prog w = .ok (.enter gq args) w) (R:RowK evEnc 3 w0 blk 0 d) (hd0:d.size=N) (hC:CmpLays Tryz.prog gq #[] evEnc 3 cmpEv blk 0 N w0) (hsz:N≤200) :
  Calls Tryz.prog 244 #[.slice (some ⟨blk,0,none⟩) N cap,.int .i64 N,.func (.func gq) #[] #[]] w0 fun e w'=>e = .returned (.tuple #[])∧ ∃d',PermIn 0 N d d'∧SortedIn (ltOf cmpEv) 0 N d'∧SWK evEnc 3 w0 blk 0 d' w':=by
 have HC:=Lib.hid hC
 have S0:=Lib.hid (SWK.start R.hH)
 have P0:=Lib.hid (permIn_refl d 0 N)
 have B0:=Lib.hid (bk_zero 20 d)
 clear hC
 go_enter Tryz.func244,Tryz.ntmps244
 go_wp2_with fail
 go_loopg [7,8] N (fun gk va vb wr=> ∃(a b:Nat) (dk:Array Ev),gk=N - a∧va = .int .i64 a∧vb = .int .i64 b∧Hid (b=a+20∧a % 20=0)∧a≤N∧dk.size=N∧Hid (Bk 20 0 a dk)∧Hid (PermIn 0 N d dk)∧Hid (SWK evEnc 3 w0 blk 0 dk wr))
 case atStart=>exact⟨0,20,d,rfl,rfl,rfl,⟨rfl,rfl⟩,by omega,hd0,B0,P0,S0⟩
 case round =>
  obtain⟨a,b,dk,rfl,rfl,rfl,HB,haN,hdk,B1,P1,S1⟩:=hrel
  clear S0 P0 B0
  by_cases hbN:b≤N
  ·have hbz:(b:Int)≤(N:Int):=by omega
   go_wp2_with fail
   refine(ins_ev gq blk cap N a b d dk w0 _ eg R hd0 hdk HC.out (by omega) S1.out (by have:=HB.out;omega) hbN).mono ?_
   rintro e w1 ⟨rfl,d1,p1,s1,S2⟩
   obtain⟨b2,hb2⟩ : ∃u,u=b+20:=⟨_,rfl⟩
   have eb:(b:Int)+20=(b2:Int):=by omega
   have HB2:=Lib.hid hb2
   clear hb2
   go_wp2_with fail
   go_roundg (N - b)
   case measure=>have:=HB.out;omega
   case rel=>exact⟨b,b2,d1,rfl,rfl,rfl,⟨HB2.out,by have:=HB.out;omega⟩,hbN,by rw [p1.1];exact hdk,bk_ins HB.out.2 B1.out p1 s1,permIn_trans _ _ _ _ _ P1.out (permIn_mono _ _ _ _ _ _ (Nat.zero_le _) hbN (by omega) p1),S2⟩
  ·have hbz : ¬(b:Int)≤(N:Int):=by omega
   go_wp2_with fail
   refine(ins_ev gq blk cap N a N d dk w0 _ eg R hd0 hdk HC.out (by omega) S1.out haN (Nat.le_refl _)).mono ?_
   rintro e w1 ⟨rfl,d1,p1,s1,S2⟩
   have B2:=Lib.hid (bk_ins HB.out.2 B1.out p1 s1)
   have P2:=Lib.hid (permIn_trans _ _ _ _ _ P1.out (permIn_mono _ _ _ _ _ _ (Nat.zero_le _) (Nat.le_refl _) (by omega) p1))
   have S3:=Lib.hid S2
   have hd1:d1.size=N:=by rw [p1.1];exact hdk
   clear B1 P1 S1 p1 s1 S2 HB hbN hbz haN hdk
   go_wp2_with fail
   go_loopg [6] 380 (fun gk vs wr=> ∃(s:Nat) (dk:Array Ev),gk=400 - s∧vs = .int .i64 s∧Hid (s=20∨s=40∨s=80∨s=160∨s=320)∧s≤320∧dk.size=N∧Hid (Bk s 0 N dk)∧Hid (PermIn 0 N d dk)∧Hid (SWK evEnc 3 w0 blk 0 dk wr))
   case atStart=>exact⟨20,d1,rfl,rfl,.inl rfl,by omega,hd1,B2,P2,S3⟩
   case round =>
    clear hd1 B2 P2 S3
    obtain⟨s,dk,rfl,rfl,HS,hs80,hdk,B1,P1,S1⟩:=hrel
    by_cases hsN:s<N
    ·have hsz2:(s:Int)<(N:Int):=by omega
     obtain⟨s2,hs2⟩ : ∃u,u=2*s:=⟨_,rfl⟩
     have es:2*(s:Int)=(s2:Int):=by omega
     have es':(s:Int)*2=(s2:Int):=by omega
     have hs160:s2≤640:=by omega
     have HS2:=Lib.hid (show s2=2*s∧(s=20∨s=40∨s=80∨s=160)from ⟨hs2,by have:=HS.out;omega⟩)
     clear hs2 HS
     have S2:=S1
     have P2:=P1
     have B2:=Lib.hid (bk_zero s2 dk)
     have B3:=B1
     clear S1 P1 B1
     go_wp2_with fail
     go_loopg [7,8] N (fun gk va vb wr=> ∃(a b:Nat) (dk:Array Ev),gk=N - a∧va = .int .i64 a∧vb = .int .i64 b∧Hid (b=a+s2∧a % s2=0)∧b≤a+640∧a≤N∧dk.size=N∧Hid (Bk s2 0 a dk)∧Hid (Bk s a N dk)∧Hid (PermIn 0 N d dk)∧Hid (SWK evEnc 3 w0 blk 0 dk wr))
     case atStart=>exact⟨0,s2,dk,rfl,rfl,rfl,⟨by omega,Nat.zero_mod _⟩,by omega,by omega,hdk,B2,B3,P2,S2⟩
     case round =>
      clear hdk B2 B3 P2 S2
      obtain⟨a,b,dk,rfl,rfl,rfl,HB,hb160,haN,hdk,B1,B2,P1,S1⟩:=hrel
      obtain⟨m,hm⟩ : ∃u,u=a+s:=⟨_,rfl⟩
      have em:(a:Int)+(s:Int)=(m:Int):=by omega
      have hm130:m≤600:=by omega
      have HM:=Lib.hid hm
      clear hm
      by_cases hbN:b≤N
      ·have hbz:(b:Int)≤(N:Int):=by omega
       obtain⟨b2,hb2⟩ : ∃u,u=b+s2:=⟨_,rfl⟩
       have eb:(b:Int)+(s2:Int)=(b2:Int):=by omega
       have HB2:=Lib.hid hb2
       have hb4:b2≤1000:=by omega
       clear hb2
       go_wp2_with fail
       refine(symMerge_ev gq blk cap N d w0 eg R hd0 HC.out (by omega) (b - a+1) a m b dk _ (by omega) hdk S1.out (by have:=HM.out;have:=HS2.out;omega) (by have:=HM.out;have:=HS2.out;have:=HB.out;omega) hbN (bk_left HS2.out.2 (by rw [←HS2.out.1];exact HB.out.2) B2.out HM.out (by have:=HM.out;have:=HS2.out;have:=HB.out;omega)) (bk_right HS2.out.2 (by rw [←HS2.out.1];exact HB.out.2) B2.out HM.out (by have:=HS2.out;have:=HB.out;omega) hbN)).mono ?_
       rintro e w1 ⟨rfl,d1,p1,s1,S2⟩
       go_wp2_with fail
       go_roundg (N - b)
       case measure=>have:=HB.out;have:=HS2.out;omega
       case rel =>
        have q1:=HS2.out
        have q2:=HB.out
        refine⟨b,b2,d1,rfl,rfl,rfl,⟨HB2.out,by rw [q2.1,Nat.add_mod_right];exact q2.2⟩,by have:=HB2.out;omega,hbN,by rw [p1.1];exact hdk,?_,bk_rest (by omega) B2.out p1,permIn_trans _ _ _ _ _ P1.out (permIn_mono _ _ _ _ _ _ (Nat.zero_le _) hbN (by omega) p1),S2⟩
        have q3:=B1.out
        rw [q1.1]at q2 q3 ⊢
        exact bk_step q1.2 q2.2 q3 p1 s1
      ·have hbz : ¬(b:Int)≤(N:Int):=by omega
       by_cases hmN:m<N
       ·have hmz:(m:Int)<(N:Int):=by omega
        go_wp2_with fail
        refine(symMerge_ev gq blk cap N d w0 eg R hd0 HC.out (by omega) (N - a+1) a m N dk _ (by omega) hdk S1.out (by have:=HM.out;have:=HS2.out;omega) hmN (Nat.le_refl _) (bk_left HS2.out.2 (by rw [←HS2.out.1];exact HB.out.2) B2.out HM.out (by omega)) (bk_right HS2.out.2 (by rw [←HS2.out.1];exact HB.out.2) B2.out HM.out (by have:=HS2.out;have:=HB.out;omega) (Nat.le_refl _))).mono ?_
        rintro e w1 ⟨rfl,d1,p1,s1,S2⟩
        go_wp2_with fail
        go_roundg (400 - s2)
        case measure=>have:=HS2.out;omega
        case rel =>
            have q1:=HS2.out
            have q2:=HB.out
            refine⟨s2,d1,rfl,rfl,(by show s2=20∨s2=40∨s2=80∨s2=160∨s2=320;omega),by omega,by rw [p1.1];exact hdk,?_,permIn_trans _ _ _ _ _ P1.out (permIn_mono _ _ _ _ _ _ (Nat.zero_le _) (Nat.le_refl _) (by omega) p1),S2⟩
            have q3:=B1.out
            rw [q1.1]at q2 q3 ⊢
            exact bk_step q1.2 q2.2 q3 p1 s1
       ·have hmz : ¬(m:Int)<(N:Int):=by omega
        go_wp2_with fail
        go_roundg (400 - s2)
        case measure=>have:=HS2.out;omega
        case rel =>
            have q1:=HS2.out
            have q2:=HB.out
            refine⟨s2,dk,rfl,rfl,(by show s2=20∨s2=40∨s2=80∨s2=160∨s2=320;omega),by omega,hdk,?_,P1,S1⟩
            have q3:=B1.out
            have q4:=HM.out
            rw [q1.1]at q2 q3 ⊢
            exact bk_stay q1.2 q2.2 q3 B2.out (by omega)
    ·have hsz2 : ¬(s:Int)<(N:Int):=by omega
     go_wp2_with fail
     first |go_end0 | refine bodyPost_ret (results_none rfl _ _ _) rfl ?_
     exact⟨rfl,dk,P1.out,bk_all B1.out (by omega),S1.out⟩
end Go.Proofs.YtkddkbpoefidpaaGreatDoor
namespace Go.Proofs.YtkddkbpoefidpaaGreatDoor
open Go.RowKit Go.Shelf Go.Sort
theorem cmpEv_enter : ∀args w,(callFunc 177 args).run Tryz.prog w = .ok (.enter 177 args) w:=fun args w=>by kernel_rfl
theorem cmpEv_lays (blk N:Nat) (w:World):CmpLays Tryz.prog 177 #[] evEnc 3 cmpEv blk 0 N w:=by
 intro m os dk _ x y
 refine(cmpEv_any x y _).mono ?_
 rintro e w' ⟨rfl,h⟩
 obtain⟨n,os',h⟩:=h.grown
 exact⟨rfl,n,os',h⟩
set_option maxHeartbeats 1000000 in
theorem stable_none (p:Option Addr) (cap:Nat) (w:World):Calls Tryz.prog 176 #[.slice p 0 cap,.func (.func 177) #[] #[]] w fun en w'=>en = .returned (.tuple #[])∧w'=w:=by
 have h1:Calls Tryz.prog 244 #[.slice p 0 cap,.int .i64 0,.func (.func 177) #[] #[]] w fun en w'=>en = .returned (.tuple #[])∧w'=w:=by
  go_enter Tryz.func244,Tryz.ntmps244
  go_wp2_with fail
  go_loopg [7,8] 0 (fun gk va vb wr=>va = .int .i64 0∧vb = .int .i64 20∧wr=w)
  case atStart=>exact⟨rfl,rfl,rfl⟩
  case round =>
   obtain⟨rfl,rfl,rfl⟩:=hrel
   go_wp2_with fail
   refine(AnyF.insertionSortCmpFunc_none Tryz.insEv p cap _ _).mono ?_
   rintro e w1 ⟨rfl,rfl⟩
   obtain⟨wA,hwA⟩ : ∃u,u=w1:=⟨_,rfl⟩
   subst hwA
   go_wp2_with fail
   go_loopg [6] 0 (fun gk va wr=>va = .int .i64 20∧wr=wA)
   case atStart=>exact⟨rfl,rfl⟩
   case round =>
    obtain⟨rfl,rfl⟩:=hrel
    go_wp2_with fail
    first |go_end0 | refine bodyPost_ret (results_none rfl _ _ _) rfl ?_
    exact⟨rfl,rfl⟩
 go_enter Tryz.func176,Tryz.ntmps176
 go_wp2_with fail
 refine h1.mono ?_
 rintro e w1 ⟨rfl,rfl⟩
 go_wp2_with fail
 go_end0
 exact⟨rfl,rfl⟩
set_option maxHeartbeats 1000000 in
theorem sortStable_ev (w:World) (S:Nat→Prop) (base:Nat) (e:TypeId) (v:Value) (xs:List Ev) (hown:OwnOf Rep.ev w S base e v xs) (hlen:xs.length≤200) :
  Calls Tryz.prog 176 #[v,.func (.func 177) #[] #[]] w fun en w'=> ∃ys,en = .returned (.tuple #[])∧ys.Perm xs∧(ys.Pairwise fun a b=>a.from_≤b.from_)∧OwnOf Rep.ev w' S base e v ys∧w.grownBy w' v.ownBlock:=by
 by_cases hn:0<xs.length
 ·obtain⟨g,cap,cur,rfl,hb,hh,hc1,hc2,hsz,hH,hok⟩:=own_split ev_iff hown hn
  have hlt:g<w.heap.size:=(Array.getElem?_eq_some_iff.1 hh).1
  obtain⟨N,hN⟩ : ∃N,N=xs.length:=⟨_,rfl⟩
  have R:RowK evEnc 3 w g 0 xs.toArray:=⟨ev_len,ev_one,hH,hlt⟩
  have h1:=stable_ev 177 g cap N xs.toArray w cmpEv_enter R (by simp [hN]) (cmpEv_lays g N w) (by omega)
  have hfin : ∀d' w',PermIn 0 N xs.toArray d'→SortedIn (ltOf cmpEv) 0 N d'→SWK evEnc 3 w g 0 d' w'→ ∃ys,ys.Perm xs∧(ys.Pairwise fun a b=>a.from_≤b.from_)∧OwnOf Rep.ev w' S base e (.slice (some ⟨g,0,none⟩) N cap) ys∧w.grownBy w' (Value.slice (some ⟨g,0,none⟩) N cap).ownBlock:=by
   intro d' w' p s hS
   obtain⟨m,os,rfl⟩:=hS
   have hds:d'.size=N:=by rw [p.1];simp [hN]
   have hperm:d'.toList.Perm xs:=by
    have:=p.2.2
    rw [extract_all _ _ hds,extract_all _ _ (by simp [hN])]at this
    simpa using this
   refine⟨d'.toList,hperm,?_,?_,?_⟩
   ·rw [List.pairwise_iff_getElem]
    intro i j hi hj hij
    have h2:=s i j (Nat.zero_le _) hij (by simpa [hds] using hj)
    rw [getElem!_pos d' j (by simpa using hj),getElem!_pos d' i (by simpa using hi)]at h2
    unfold ltOf cmpEv cmpI at h2
    simp only [decide_eq_false_iff_not]at h2
    simp only [Array.getElem_toList]
    (repeat' split at h2) <;> omega
   ·exact own_back ev_iff ev_len hb hh (by omega) hc2 hsz hds fun x hx=>hok x (hperm.mem_iff.1 hx)
   ·exact sortWorld_grown evEnc 3 w g 0 m d' os
  rw [←hN]
  have HF:=Lib.hid hfin
  clear hfin R hH hok hh hown hN
  go_enter Tryz.func176,Tryz.ntmps176
  go_wp2_with fail
  refine h1.mono ?_
  rintro en w1 ⟨rfl,d',p,s,hS⟩
  have HP:=Lib.hid p
  have HS:=Lib.hid s
  have HW:=Lib.hid hS
  clear p s hS
  go_wp2_with fail
  go_end0
  obtain⟨ys,h2⟩:=HF.out d' w1 HP.out HS.out HW.out
  exact⟨ys,rfl,h2⟩
 ·have hxs:xs = []:=List.eq_nil_of_length_eq_zero (by omega)
  subst hxs
  have hform : ∃p cap,v = .slice p 0 cap:=by
   rcases hown.form with ⟨rfl,_⟩ | ⟨g,cap,rfl,_⟩
   ·exact⟨_,_,rfl⟩
   ·exact⟨_,_,rfl⟩
  obtain⟨p,cap,rfl⟩:=hform
  refine(stable_none p cap w).mono ?_
  rintro en w' ⟨rfl,rfl⟩
  exact⟨[],rfl,List.Perm.refl _,List.Pairwise.nil,hown,⟨rfl,rfl,rfl,Nat.le_refl _,fun _ _ _=>rfl⟩⟩
end Go.Proofs.YtkddkbpoefidpaaGreatDoor
