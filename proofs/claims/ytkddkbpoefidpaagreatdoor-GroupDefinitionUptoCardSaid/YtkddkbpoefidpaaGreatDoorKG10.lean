/- joined texts of a proof: AggX, AggM, PlainX, EvalF, EvalM, EvalA -/
import Derived.Test.YtkddkbpoefidpaaGreatDoorKG09
import Derived.Test.YtkddkbpoefidpaaGreatDoorKG08
import Derived.Shelf.Spec.BitsCarry
import Derived.WalkArith
import Derived.Test.YtkddkbpoefidpaaGreatDoorKG01
import Derived.Laws.Bits64
namespace Go.Proofs.YtkddkbpoefidpaaGreatDoor
open Go.RowKit
theorem add64N (x y c:Nat) (hc:c≤1) (w:World):(callFunc 275 #[.int .u64 x,.int .u64 y,.int .u64 c]).run Tryz.prog w =
  .ok (.value (.tuple #[.int .u64 (((x+y+c) % 18446744073709551616:Nat):Int),.int .u64 (((x+y+c) / 18446744073709551616:Nat):Int)])) w:=by
 rw [run_callFunc_extern Tryz.func275 (by kernel_rfl) (by kernel_rfl) (by kernel_rfl) (e:=add64Entry) (by kernel_rfl),run_add64 x y c (by omega) (by omega) (by omega) (by omega)]
 simp only [Result.andThen]
 congr 5 <;> omega
theorem add64_0 (x y:Int) (hx:0≤x) (hy:0≤y) (w:World):(callFunc 275 #[.int .u64 x,.int .u64 y,.int .u64 0]).run Tryz.prog w =
  .ok (.value (.tuple #[.int .u64 ((x+y) % 18446744073709551616),.int .u64 ((x+y) / 18446744073709551616)])) w:=by
 obtain⟨x,rfl⟩:=Int.eq_ofNat_of_zero_le hx
 obtain⟨y,rfl⟩:=Int.eq_ofNat_of_zero_le hy
 refine(add64N x y 0 (by omega) w).trans ?_
 congr 5 <;> omega
def wideV (S:Int):Value:= .agg #[.int .i64 (wideHi S),.int .u64 (wideLo S)]
set_option maxRecDepth 100000 in
theorem widen_any (n:Int) (w:World) (h0 : -9223372036854775808≤n) (h1:n≤9223372036854775807):Calls Tryz.prog 226 #[.int .i64 n] w fun e w'=>e = .returned (wideV n)∧Ext w w':=by
 have hh:n / 9223372036854775808=wideHi n:=by unfold wideHi;omega
 have hl:IntKind.u64.wrap n=wideLo n:=by unfold wideLo;rw [IntKind.wrap_u64]
 go_enter Tryz.func226,Tryz.ntmps226
 go_wp2_with fail
 exact bodyPost_ret (v:=wideV n) (by simp [results,Tryz.results226,go_sem,wideV]) rfl ⟨rfl,(Ext.refl w).alloc _⟩
set_option maxRecDepth 100000 in
theorem plus_any (S T:Int) (w:World) (h0 : -10141204801825835211973625643008≤S∧S≤10141204801825835211973625643008) (h1 : -10141204801825835211973625643008≤T∧T≤10141204801825835211973625643008):Calls Tryz.prog 225 #[wideV S,wideV T] w fun e w'=>e = .returned (wideV (S+T))∧Ext w w':=by
 unfold wideV
 obtain⟨a,ha⟩ : ∃a,a=wideHi S:=⟨_,rfl⟩
 obtain⟨b,hb⟩ : ∃a,a=wideLo S:=⟨_,rfl⟩
 obtain⟨c,hc⟩ : ∃a,a=wideHi T:=⟨_,rfl⟩
 obtain⟨d,hd⟩ : ∃a,a=wideLo T:=⟨_,rfl⟩
 rw [←ha,←hb,←hc,←hd]
 unfold wideHi at ha hc
 unfold wideLo at hb hd
 have hb0:0≤b:=by omega
 have hd0:0≤d:=by omega
 have HHI:=Lib.hid (show a+c+(b+d) / 18446744073709551616=wideHi (S+T)from by unfold wideHi;omega)
 have HLO:=Lib.hid (show (b+d) % 18446744073709551616=wideLo (S+T)from by unfold wideLo;omega)
 have hw1:IntKind.i64.wrap (a+c)=a+c:=by rw [IntKind.wrap_i64];omega
 have hw2:IntKind.i64.wrap ((b+d) / 18446744073709551616)=(b+d) / 18446744073709551616:=by rw [IntKind.wrap_i64];omega
 have hw3:IntKind.i64.wrap (a+c+(b+d) / 18446744073709551616)=a+c+(b+d) / 18446744073709551616:=by rw [IntKind.wrap_i64];omega
 have HA:=add64_0 b d hb0 hd0
 clear ha hb hc hd h0 h1
 go_enter Tryz.func225,Tryz.ntmps225
 go_wp2_with (simp only [HA])
 exact bodyPost_ret (v:= .agg #[.int .i64 (wideHi (S+T)),.int .u64 (wideLo (S+T))]) (by rw [←HHI.out,←HLO.out];simp [results,Tryz.results225,go_sem]) rfl ⟨rfl,(((Ext.refl w).alloc _).alloc _).alloc _⟩
set_option maxRecDepth 100000 in
theorem int64_any (S:Int) (w:World) (h0 : -10141204801825835211973625643008≤S∧S≤10141204801825835211973625643008):Calls Tryz.prog 227 #[wideV S] w fun e w'=> ∃n b,e = .returned (.tuple #[.int .i64 n,.bool b])∧(b=true↔ -9223372036854775808≤S∧S≤9223372036854775807)∧(b=true→n=S)∧Ext w w':=by
 unfold wideV
 obtain⟨a,ha⟩ : ∃a,a=wideHi S:=⟨_,rfl⟩
 obtain⟨b,hb⟩ : ∃a,a=wideLo S:=⟨_,rfl⟩
 rw [←ha,←hb]
 unfold wideHi at ha
 unfold wideLo at hb
 obtain⟨n,hn⟩ : ∃n,IntKind.i64.wrap b=n:=⟨_,rfl⟩
 have hn':=hn
 rw [IntKind.wrap_i64]at hn'
 obtain⟨q,hq⟩ : ∃q,n / 9223372036854775808=q:=⟨_,rfl⟩
 have H1:=Lib.hid (show (a==q)=true↔ -9223372036854775808≤S∧S≤9223372036854775807 from by rw [beq_iff_eq];omega)
 have H2:=Lib.hid (show (a==q)=true→n=S from by rw [beq_iff_eq];omega)
 clear ha hb h0 hn'
 go_enter Tryz.func227,Tryz.ntmps227
 go_wp2_with fail
 go_region
 go_wp2_with fail
 go_ret2
 exact⟨n,a==q,rfl,H1.out,H2.out,((Ext.refl w).alloc _).drew⟩
set_option maxRecDepth 100000 in
set_option maxHeartbeats 4000000 in
theorem sum_any (v:Value) (xs:List Val) (w:World) (hv:SliceOf Rep.val w.cell? v xs) (hl:xs.length≤1048576):Calls Tryz.prog 160 #[v] w fun e w'=>e = .returned (valV (sumV xs))∧Ext w w':=by
 obtain⟨p,cap,rfl,hc1,hc2,hp⟩:=hv.form
 obtain⟨N,hN⟩ : ∃N,N=xs.length:=⟨_,rfl⟩
 have HV:=Lib.hid hv
 rw [←hN]
 have HN:=Lib.hid hN
 have HP:=Lib.hid hp
 have hNl:N≤1048576:=by omega
 clear hv hl hp hc1 hc2 hN
 have HOK:=Lib.hid (vals_ok HV.out)
 go_enter Tryz.func160,Tryz.ntmps160
 go_wp2_with fail
 obtain⟨Q,hQ⟩ : ∃q,q=w.heap.size:=⟨_,rfl⟩
 have HQ:=Lib.hid hQ
 rw [←hQ]
 go_loopg [4,11] N (fun gk vb vi wr=> ∃k:Nat,k≤N∧gk=N - k∧vi = .int .i64 k∧vb = .bool (anyI (xs.take k))∧Hid (wr.cell? ⟨Q+1,0,none⟩=some (.int .i64 (wideHi (sumI (xs.take k))))∧wr.cell? ⟨Q+1,1,none⟩=some (.int .u64 (wideLo (sumI (xs.take k))))∧wr.frozen? ⟨Q+1,0,none⟩=false∧wr.frozen? ⟨Q+1,1,none⟩=false)∧Hid (FreeN wr Q 3)∧Hid (Ext w wr))
 case atStart =>
  refine⟨0,by omega,rfl,rfl,rfl,⟨?_,?_,?_,?_⟩,fun j hj=> ?_,((Ext.refl w).alloc _).alloc _⟩
  ·rw [hQ];go_simp;rfl
  ·rw [hQ];go_simp;rfl
  ·rw [hQ];go_simp
  ·rw [hQ];go_simp
  ·rw [hQ]
   match j,hj with
   |0,_=>exact⟨⟨.int .i64 0,by go_simp⟩,by go_simp⟩
   |1,_=>exact⟨⟨.int .i64 0,by go_simp⟩,by go_simp⟩
   |2,_=>exact⟨⟨.string ⟨#[]⟩,by go_simp⟩,by go_simp⟩
 case round =>
  clear hQ
  obtain⟨k,hk,rfl,rfl,rfl,TT,FR,HX⟩:=hrel
  by_cases hlt:k<N
  ·have hkl:k<xs.length:=by have:=HN.out;omega
   have hd:decide ((k:Int)<(N:Int))=true:=by simp;omega
   obtain⟨b,o,rfl⟩:=HP.out (by decide) (by omega)
   have hv:=HV.out
   rw [←HN.out]at hv
   obtain⟨c0,c1,c2,r0,r1⟩:=val_cells hv k hkl
   replace c0:=HX.out.at c0
   replace c1:=HX.out.at c1
   replace c2:=HX.out.at c2
   have hst:=sumI_take xs k hkl
   have hat:=anyI_take xs k hkl
   have hbd:=sumI_bound (xs:=xs.take k) (b:=9223372036854775808) (by decide) (fun v hv=>by have:=(HOK.out v (List.mem_of_mem_take hv)).2.1;omega)
   rw [List.length_take,Nat.min_eq_left (by omega)]at hbd
   obtain⟨S,hS⟩ : ∃S,S=sumI (xs.take k):=⟨_,rfl⟩
   rw [←hS]at TT hst hbd
   have hS1 : -10141204801825835211973625643008≤S∧S≤10141204801825835211973625643008:=by omega
   generalize xs[k]=y at c0 c1 c2 r0 r1 hst hat
   obtain⟨yk,yn,ys⟩:=y
   dsimp only at c0 c1 c2 r0 r1 hst hat
   have e0:=cell_lt c0
   have m0:=TT.out.1
   have m1:=TT.out.2.1
   have e1:=cell_lt m0
   have HS1:=Lib.hid hS1
   have HR1:=Lib.hid r1
   have HST:=Lib.hid hst
   have HAT:=Lib.hid hat
   clear hv hbd hS hS1 r0 r1 hst hat hkl
   by_cases hyk:yk=1
   ·have hb1:(yk==1)=true:=by simp [hyk]
    have HYK:=Lib.hid hyk
    clear hyk
    go_wp2_with fail
    have k1:(wr.alloc (.cells #[.int .i64 yk,.int .i64 yn,.string ys] 73)).cell? ⟨wr.heap.size,1,none⟩=some (.int .i64 yn):=by go_simp
    have x0:Ext wr (wr.alloc (.cells #[.int .i64 yk,.int .i64 yn,.string ys] 73)):=(Ext.refl wr).alloc _
    generalize (wr.alloc (.cells #[.int .i64 yk,.int .i64 yn,.string ys] 73))=W at k1 x0 ⊢
    replace m0:=x0.at m0
    replace m1:=x0.at m1
    have X0:=Lib.hid x0.drew
    clear x0 c0 c1 c2 e0 e1
    go_region_law (first
     |((with_reducible refine key_op 21 ?_);go_simp;refine(widen_any yn _ HR1.out.1 HR1.out.2).mono ?_;rintro e w5 ⟨rfl,x5⟩;unfold wideV;have X5:Hid (Ext wr w5):=Lib.hid (X0.out.trans x5);have f0:=X5.out.at TT.out.1;have f1:=X5.out.at TT.out.2.1;have f4:=cell_lt f0)
     |((with_reducible refine key_op 22 ?_);go_simp;refine(plus_any S yn _ HS1.out (by have:=HR1.out;omega)).mono ?_;rintro e w6 ⟨rfl,x6⟩;unfold wideV;have X6:Hid (Ext wr w6):=Lib.hid (X5.out.trans x6);have l0:=X6.out.at TT.out.1;have l1:=X6.out.at TT.out.2.1;have l2:=X6.out.unfrozen TT.out.1 TT.out.2.2.1;have l3:=X6.out.unfrozen TT.out.2.1 TT.out.2.2.2;have l4:=cell_lt l0))
    all_goals
     have CH:Chg (fun x=>x=Q+1) wr ((w6.setCell ⟨Q+1,0,none⟩ (.int .i64 (wideHi (S+yn)))).setCell ⟨Q+1,1,none⟩ (.int .u64 (wideLo (S+yn)))):=((X6.out.chg (fun x=>x=Q+1)).setCell (p:=⟨Q+1,0,none⟩) (.inl rfl) _).setCell (p:=⟨Q+1,1,none⟩) (.inl rfl) _
     have X7:Ext w ((w6.setCell ⟨Q+1,0,none⟩ (.int .i64 (wideHi (S+yn)))).setCell ⟨Q+1,1,none⟩ (.int .u64 (wideLo (S+yn)))):=Below.setCell (Below.setCell (HX.out.trans X6.out) (by have:=HQ.out;show w.heap.size≤Q+1;omega) _) (by have:=HQ.out;show w.heap.size≤Q+1;omega) _
     have q0:((w6.setCell ⟨Q+1,0,none⟩ (.int .i64 (wideHi (S+yn)))).setCell ⟨Q+1,1,none⟩ (.int .u64 (wideLo (S+yn)))).cell? ⟨Q+1,0,none⟩=some (.int .i64 (wideHi (S+yn))):=by go_simp
     have q1:((w6.setCell ⟨Q+1,0,none⟩ (.int .i64 (wideHi (S+yn)))).setCell ⟨Q+1,1,none⟩ (.int .u64 (wideLo (S+yn)))).cell? ⟨Q+1,1,none⟩=some (.int .u64 (wideLo (S+yn))):=by go_simp
     have q2:((w6.setCell ⟨Q+1,0,none⟩ (.int .i64 (wideHi (S+yn)))).setCell ⟨Q+1,1,none⟩ (.int .u64 (wideLo (S+yn)))).frozen? ⟨Q+1,0,none⟩=false:=by go_simp
     have q3:((w6.setCell ⟨Q+1,0,none⟩ (.int .i64 (wideHi (S+yn)))).setCell ⟨Q+1,1,none⟩ (.int .u64 (wideLo (S+yn)))).frozen? ⟨Q+1,1,none⟩=false:=by go_simp
     generalize (w6.setCell ⟨Q+1,0,none⟩ (.int .i64 (wideHi (S+yn)))).setCell ⟨Q+1,1,none⟩ (.int .u64 (wideLo (S+yn)))=w7 at CH X7 q0 q1 q2 q3 ⊢
     have FR7:=Lib.hid (FR.out.chg CH (by omega))
     have HX7:=Lib.hid X7
     have TT7:=Lib.hid (And.intro q0 (And.intro q1 (And.intro q2 q3)))
     clear CH X7 q0 q1 q2 q3 l0 l1 l2 l3 l4 f0 f1 f4 m0 m1 k1
     go_wp2_with fail
     go_roundg (N - (k+1))
     case measure=>omega
     case rel =>
      refine⟨k+1,by omega,rfl,by go_num,?_,?_,FR7.out,HX7.out⟩
      ·rw [HAT.out,decide_eq_true HYK.out,Bool.or_true]
      ·rw [HST.out,if_pos HYK.out];exact TT7.out
   ·have hb1:(yk==1)=false:=by simp [hyk]
    have HYK:=Lib.hid hyk
    clear hyk
    go_wp2_with fail
    go_roundg (N - (k+1))
    case measure=>omega
    case rel =>
     have X1:=(Ext.refl wr).alloc (.cells #[.int .i64 yk,.int .i64 yn,.string ys] 73)
     refine⟨k+1,by omega,rfl,by go_num,?_,⟨?_,?_,?_,?_⟩,?_,HX.out.trans X1⟩
     ·rw [HAT.out,decide_eq_false HYK.out,Bool.or_false]
     ·rw [HST.out,if_neg HYK.out,Int.add_zero];exact X1.at TT.out.1
     ·rw [HST.out,if_neg HYK.out,Int.add_zero];exact X1.at TT.out.2.1
     ·exact X1.unfrozen TT.out.1 TT.out.2.2.1
     ·exact X1.unfrozen TT.out.2.1 TT.out.2.2.2
     ·exact FR.out.chg (X1.chg (fun _=>False)) (fun h=>h)
  ·have hkN:k=N:=by omega
   have hd : ¬(k:Int)<(N:Int):=by omega
   have hxt:xs.take k=xs:=by rw [hkN,HN.out];exact List.take_length
   rw [hxt]at TT
   rw [hxt]
   have hbd:=sumI_bound (xs:=xs) (b:=9223372036854775808) (by decide) (fun v hv=>by have:=(HOK.out v hv).2.1;omega)
   obtain⟨S,hS⟩ : ∃S,S=sumI xs:=⟨_,rfl⟩
   have HSV:=Lib.hid (show sumV xs=if anyI xs=true∧ -9223372036854775808≤S∧S≤9223372036854775807 then intVal S else nV from by rw [hS];rfl)
   rw [←hS]at TT hbd
   have hS1 : -10141204801825835211973625643008≤S∧S≤10141204801825835211973625643008:=by have:=HN.out;omega
   have m0:=TT.out.1
   have m1:=TT.out.2.1
   have HS1:=Lib.hid hS1
   have e1:=cell_lt m0
   generalize anyI xs=ay at HSV ⊢
   clear hkN hxt hbd hS hS1
   go_wp2_with fail
   refine(int64_any S _ HS1.out).mono ?_
   rintro e w5 ⟨n,bo,rfl,hb1,hb2,x5⟩
   have HB:=Lib.hid (And.intro hb1 hb2)
   obtain⟨⟨⟨z0,f0⟩,g0⟩,⟨⟨z1,f1⟩,g1⟩,⟨⟨z2,f2⟩,g2⟩⟩:=And.intro (FR.out.ext x5 0 (by omega)) (And.intro (FR.out.ext x5 1 (by omega)) (FR.out.ext x5 2 (by omega)))
   have X5:=Lib.hid (HX.out.trans x5)
   have e5:=cell_lt f0
   clear hb1 hb2 x5 m0 m1 e1 TT FR HX
   cases ay <;> cases bo
   all_goals
    go_wp2_with fail
    have XF : ∀u v z,Ext w (((w5.setCell ⟨Q,0,none⟩ u).setCell ⟨Q,1,none⟩ v).setCell ⟨Q,2,none⟩ z):=fun u v z=>Below.setCell (Below.setCell (Below.setCell X5.out (by have:=HQ.out;show w.heap.size≤Q;omega) _) (by have:=HQ.out;show w.heap.size≤Q;omega) _) (by have:=HQ.out;show w.heap.size≤Q;omega) _
    first
    |exact bodyPost_ret (v:= .agg #[.int .i64 0,.int .i64 0,.string ⟨#[]⟩]) (by simp [results,Tryz.results160,go_sem,f0,f1,f2]) rfl ⟨by rw [show sumV xs=nV from by rw [HSV.out];exact if_neg (fun h=>by first | exact absurd h.1 (by decide) | exact absurd (HB.out.1.2 h.2) (by decide))];rfl,XF _ _ _⟩
    |exact bodyPost_ret (v:= .agg #[.int .i64 1,.int .i64 n,.string ⟨#[]⟩]) (by simp [results,Tryz.results160,go_sem,f0,f1,f2]) rfl ⟨by rw [HSV.out,if_pos (by have h:=HB.out.1;simpa using h),show n=S from by have h:=HB.out.2;simpa using h];rfl,XF _ _ _⟩
end Go.Proofs.YtkddkbpoefidpaaGreatDoor
namespace Go.Proofs.YtkddkbpoefidpaaGreatDoor
open Go.RowKit
theorem pickMin_snoc {xs:List Val} (h:xs≠ []) (y:Val):pickMin (xs ++ [y])=if cmpVal y (pickMin xs)<0 then y else pickMin xs:=by
 cases xs with
 |nil=>exact absurd rfl h
 |cons x xs =>
  show (xs ++ [y]).foldl _ x=_
  rw [List.foldl_append]
  rfl
set_option maxRecDepth 100000 in
set_option maxHeartbeats 4000000 in
theorem pickMin_any (v:Value) (xs:List Val) (w:World) (hv:SliceOf Rep.val w.cell? v xs) (hne:xs≠ []):Calls Tryz.prog 161 #[v,.func (.func 151) #[] #[]] w fun e w'=>e = .returned (valV (pickMin xs))∧Ext w w':=by
 obtain⟨p,cap,rfl,hc1,hc2,hp⟩:=hv.form
 obtain⟨N,hN⟩ : ∃N,N=xs.length:=⟨_,rfl⟩
 have hN0:0<N:=by rw [hN];exact List.length_pos_iff.2 hne
 have hN1:N≤maxLen:=by omega
 unfold maxLen at hN1
 have HV:=Lib.hid hv
 rw [←hN]at HV
 rw [←hN]
 obtain⟨b,o,rfl⟩:=hp (by decide) (by omega)
 have h00:0<xs.length:=List.length_pos_iff.2 hne
 have h0:xs.take 1 = [xs[0]]:=by rw [List.take_one];simp [List.head?_eq_getElem?]
 have hpk:pickMin (xs.take 1)=xs[0]:=by rw [h0];rfl
 obtain⟨c0,c1,c2,_,_⟩:=val_cells HV.out 0 h00
 simp only [Nat.zero_mul,Nat.add_zero]at c0 c1 c2
 rw [←hpk]at c0 c1 c2
 have HN:=Lib.hid hN
 have HNE:=Lib.hid hne
 have e0:=cell_lt c0
 clear hv hne hp hc1 hc2 hN h0 hpk
 have hlt1 : ¬(N:Int)<1:=by omega
 have hz1:decide ((N:Int)<1)=false:=by simp;omega
 go_enter Tryz.func161,Tryz.ntmps161
 go_wp2_with fail
 obtain⟨Q,hQ⟩ : ∃q,q=w.heap.size:=⟨_,rfl⟩
 have HQ:=Lib.hid hQ
 rw [←hQ]
 go_loopg [6] (N - 1) (fun gk vi wr=> ∃k:Nat,k+1≤N∧gk=N - 1 - k∧vi = .int .i64 ((k:Int)+1)∧Hid (wr.cell? ⟨Q+1,0,none⟩=some (.int .i64 (pickMin (xs.take (k+1))).kind)∧wr.cell? ⟨Q+1,1,none⟩=some (.int .i64 (pickMin (xs.take (k+1))).n)∧wr.cell? ⟨Q+1,2,none⟩=some (.string (pickMin (xs.take (k+1))).s))∧Hid (FreeN wr (Q+1) 3)∧Hid (FreeN wr Q 3)∧Hid (Ext w wr))
 case atStart =>
  refine⟨0,by omega,rfl,rfl,⟨?_,?_,?_⟩,fun j hj=> ?_,fun j hj=> ?_,((Ext.refl w).alloc _).alloc _⟩
  ·rw [hQ];go_simp
  ·rw [hQ];go_simp
  ·rw [hQ];go_simp
  ·rw [hQ]
   match j,hj with
   |0,_=>exact⟨⟨.int .i64 (pickMin (xs.take 1)).kind,by go_simp⟩,by go_simp⟩
   |1,_=>exact⟨⟨.int .i64 (pickMin (xs.take 1)).n,by go_simp⟩,by go_simp⟩
   |2,_=>exact⟨⟨.string (pickMin (xs.take 1)).s,by go_simp⟩,by go_simp⟩
  ·rw [hQ]
   match j,hj with
   |0,_=>exact⟨⟨.int .i64 0,by go_simp⟩,by go_simp⟩
   |1,_=>exact⟨⟨.int .i64 0,by go_simp⟩,by go_simp⟩
   |2,_=>exact⟨⟨.string ⟨#[]⟩,by go_simp⟩,by go_simp⟩
 case round =>
  clear hQ c0 c1 c2 e0
  obtain⟨k,hk,rfl,rfl,MM,FM,FR,HX⟩:=hrel
  by_cases hlt:k+1<N
  ·have hkl:k+1<xs.length:=by have:=HN.out;omega
   have hd:decide ((k:Int)+1<(N:Int))=true:=by simp;omega
   obtain⟨c0,c1,c2,rr0,rr1⟩:=val_cells HV.out (k+1) hkl
   clear rr0 rr1
   replace c0:=HX.out.at c0
   replace c1:=HX.out.at c1
   replace c2:=HX.out.at c2
   have hst:pickMin (xs.take (k+1+1))=if (fun y m=>cmpVal y m<0) xs[k+1] (pickMin (xs.take (k+1)))then xs[k+1]else pickMin (xs.take (k+1)):=by
    rw [List.take_succ_eq_append_getElem hkl]
    exact pickMin_snoc (fun h=>by have h5:=congrArg List.length h;rw [List.length_take,List.length_nil]at h5;omega) _
   generalize xs[k+1]=y at c0 c1 c2 hst
   obtain⟨m,hm⟩ : ∃m,m=pickMin (xs.take (k+1)):=⟨_,rfl⟩
   rw [←hm]at MM hst
   obtain⟨yk,yn,ys⟩:=y
   obtain⟨mk,mn,ms⟩:=m
   dsimp only at c0 c1 c2 hst
   have m0:=MM.out.1
   have m1:=MM.out.2.1
   have m2:=MM.out.2.2
   dsimp only at m0 m1 m2
   have e1:=cell_lt c0
   have e2:=cell_lt m0
   have HST:=Lib.hid hst
   have hj1:k+1<N:=hlt
   have hj2:(k:Int)+1<(N:Int):=by omega
   have hj3:0≤(k:Int)+1:=by omega
   have X0:=Lib.hid (show Ext wr wr.drew from (Ext.refl wr).drew)
   have hw4:IntKind.i64.wrap ((k:Int)+1+1)=(k:Int)+1+1:=by rw [IntKind.wrap_i64];omega
   clear hst hkl hm
   go_wp2_with fail
   go_region_law (first
    |((with_reducible refine key_op 26 ?_);go_simp;refine(compare_val ⟨yk,yn,ys⟩ ⟨mk,mn,ms⟩ _).mono ?_;rintro e w5 ⟨rfl,x5⟩;have X5:Hid (Ext wr w5):=Lib.hid (X0.out.trans x5.ext)))
   all_goals
    generalize hq:cmpVal ⟨yk,yn,ys⟩ ⟨mk,mn,ms⟩=q
    have HQQ:=Lib.hid hq
    clear hq
    replace c0:=X5.out.at c0
    replace c1:=X5.out.at c1
    replace c2:=X5.out.at c2
    obtain⟨⟨⟨z0,f0⟩,g0⟩,⟨⟨z1,f1⟩,g1⟩,⟨⟨z2,f2⟩,g2⟩⟩:=And.intro (FM.out.ext X5.out 0 (by omega)) (And.intro (FM.out.ext X5.out 1 (by omega)) (FM.out.ext X5.out 2 (by omega)))
    have e5:=cell_lt f0
    clear m0 m1 m2
    by_cases hq0:q<0
    ·have hqb:decide (q<0)=true:=by simp [hq0]
     have HQ0:=Lib.hid hq0
     clear hq0
     go_wp2_with fail
     have CH:Chg (fun x=>x=Q+1) wr (((w5.setCell ⟨Q+1,0,none⟩ (.int .i64 yk)).setCell ⟨Q+1,1,none⟩ (.int .i64 yn)).setCell ⟨Q+1,2,none⟩ (.string ys)):=(((X5.out.chg (fun x=>x=Q+1)).setCell (p:=⟨Q+1,0,none⟩) (.inl rfl) _).setCell (p:=⟨Q+1,1,none⟩) (.inl rfl) _).setCell (p:=⟨Q+1,2,none⟩) (.inl rfl) _
     have X7:Ext w (((w5.setCell ⟨Q+1,0,none⟩ (.int .i64 yk)).setCell ⟨Q+1,1,none⟩ (.int .i64 yn)).setCell ⟨Q+1,2,none⟩ (.string ys)):=Below.setCell (Below.setCell (Below.setCell (HX.out.trans X5.out) (by have:=HQ.out;show w.heap.size≤Q+1;omega) _) (by have:=HQ.out;show w.heap.size≤Q+1;omega) _) (by have:=HQ.out;show w.heap.size≤Q+1;omega) _
     have q0:(((w5.setCell ⟨Q+1,0,none⟩ (.int .i64 yk)).setCell ⟨Q+1,1,none⟩ (.int .i64 yn)).setCell ⟨Q+1,2,none⟩ (.string ys)).cell? ⟨Q+1,0,none⟩=some (.int .i64 yk):=by go_simp
     have q1:(((w5.setCell ⟨Q+1,0,none⟩ (.int .i64 yk)).setCell ⟨Q+1,1,none⟩ (.int .i64 yn)).setCell ⟨Q+1,2,none⟩ (.string ys)).cell? ⟨Q+1,1,none⟩=some (.int .i64 yn):=by go_simp
     have q2:(((w5.setCell ⟨Q+1,0,none⟩ (.int .i64 yk)).setCell ⟨Q+1,1,none⟩ (.int .i64 yn)).setCell ⟨Q+1,2,none⟩ (.string ys)).cell? ⟨Q+1,2,none⟩=some (.string ys):=by go_simp
     have FM7:=Lib.hid ((((FM.out.ext X5.out).set 0 (.int .i64 yk)).set 1 (.int .i64 yn)).set 2 (.string ys))
     generalize (((w5.setCell ⟨Q+1,0,none⟩ (.int .i64 yk)).setCell ⟨Q+1,1,none⟩ (.int .i64 yn)).setCell ⟨Q+1,2,none⟩ (.string ys))=w7 at CH X7 q0 q1 q2 FM7 ⊢
     have FR7:=Lib.hid (FR.out.chg CH (by omega))
     have HX7:=Lib.hid X7
     have MM7:=Lib.hid (And.intro q0 (And.intro q1 q2))
     clear CH X7 q0 q1 q2 f0 g0 f1 g1 f2 g2 c0 c1 c2
     go_wp2_with fail
     go_roundg (N - 1 - (k+1))
     case measure=>omega
     case rel =>
       refine⟨k+1,by omega,rfl,by go_num,?_,FM7.out,FR7.out,HX7.out⟩
       rw [HST.out,if_pos (by show cmpVal ⟨yk,yn,ys⟩ ⟨mk,mn,ms⟩<0;rw [HQQ.out];have h5:=HQ0.out;omega)]
       exact MM7.out
    ·have hqb:decide (q<0)=false:=by simp [hq0]
     have HQ0:=Lib.hid hq0
     clear hq0
     go_wp2_with fail
     go_roundg (N - 1 - (k+1))
     case measure=>omega
     case rel =>
       refine⟨k+1,by omega,rfl,by go_num,?_,FM.out.ext X5.out,FR.out.ext X5.out,HX.out.trans X5.out⟩
       rw [HST.out,if_neg (by show ¬cmpVal ⟨yk,yn,ys⟩ ⟨mk,mn,ms⟩<0;rw [HQQ.out];have h5:=HQ0.out;omega)]
       exact⟨X5.out.at MM.out.1,X5.out.at MM.out.2.1,X5.out.at MM.out.2.2⟩
  ·have hkN:k+1=N:=by omega
   have hd : ¬(k:Int)+1<(N:Int):=by omega
   have hxt:xs.take (k+1)=xs:=by rw [hkN,HN.out];exact List.take_length
   rw [hxt]at MM
   obtain⟨m,hm⟩ : ∃m,m=pickMin xs:=⟨_,rfl⟩
   rw [←hm]at MM
   have HM:=Lib.hid hm
   obtain⟨mk,mn,ms⟩:=m
   have m0:=MM.out.1
   have m1:=MM.out.2.1
   have m2:=MM.out.2.2
   dsimp only at m0 m1 m2
   obtain⟨⟨⟨z0,f0⟩,g0⟩,⟨⟨z1,f1⟩,g1⟩,⟨⟨z2,f2⟩,g2⟩⟩:=And.intro (FR.out 0 (by omega)) (And.intro (FR.out 1 (by omega)) (FR.out 2 (by omega)))
   have e1:=cell_lt m0
   have e5:=cell_lt f0
   clear hxt hm hkN
   go_wp2_with fail
   have XF : ∀u v z,Ext w (((wr.setCell ⟨Q,0,none⟩ u).setCell ⟨Q,1,none⟩ v).setCell ⟨Q,2,none⟩ z):=fun u v z=>Below.setCell (Below.setCell (Below.setCell HX.out (by have:=HQ.out;show w.heap.size≤Q;omega) _) (by have:=HQ.out;show w.heap.size≤Q;omega) _) (by have:=HQ.out;show w.heap.size≤Q;omega) _
   exact bodyPost_ret (v:= .agg #[.int .i64 mk,.int .i64 mn,.string ms]) (by simp [results,Tryz.results161,go_sem,f0,f1,f2]) rfl ⟨by rw [←HM.out];first | done | rfl,XF _ _ _⟩
theorem pickMax_snoc {xs:List Val} (h:xs≠ []) (y:Val):pickMax (xs ++ [y])=if 0<cmpVal y (pickMax xs)then y else pickMax xs:=by
 cases xs with
 |nil=>exact absurd rfl h
 |cons x xs =>
  show (xs ++ [y]).foldl _ x=_
  rw [List.foldl_append]
  rfl
set_option maxRecDepth 100000 in
set_option maxHeartbeats 4000000 in
theorem pickMax_any (v:Value) (xs:List Val) (w:World) (hv:SliceOf Rep.val w.cell? v xs) (hne:xs≠ []):Calls Tryz.prog 162 #[v,.func (.func 151) #[] #[]] w fun e w'=>e = .returned (valV (pickMax xs))∧Ext w w':=by
 obtain⟨p,cap,rfl,hc1,hc2,hp⟩:=hv.form
 obtain⟨N,hN⟩ : ∃N,N=xs.length:=⟨_,rfl⟩
 have hN0:0<N:=by rw [hN];exact List.length_pos_iff.2 hne
 have hN1:N≤maxLen:=by omega
 unfold maxLen at hN1
 have HV:=Lib.hid hv
 rw [←hN]at HV
 rw [←hN]
 obtain⟨b,o,rfl⟩:=hp (by decide) (by omega)
 have h00:0<xs.length:=List.length_pos_iff.2 hne
 have h0:xs.take 1 = [xs[0]]:=by rw [List.take_one];simp [List.head?_eq_getElem?]
 have hpk:pickMax (xs.take 1)=xs[0]:=by rw [h0];rfl
 obtain⟨c0,c1,c2,_,_⟩:=val_cells HV.out 0 h00
 simp only [Nat.zero_mul,Nat.add_zero]at c0 c1 c2
 rw [←hpk]at c0 c1 c2
 have HN:=Lib.hid hN
 have HNE:=Lib.hid hne
 have e0:=cell_lt c0
 clear hv hne hp hc1 hc2 hN h0 hpk
 have hlt1 : ¬(N:Int)<1:=by omega
 have hz1:decide ((N:Int)<1)=false:=by simp;omega
 go_enter Tryz.func162,Tryz.ntmps162
 go_wp2_with fail
 obtain⟨Q,hQ⟩ : ∃q,q=w.heap.size:=⟨_,rfl⟩
 have HQ:=Lib.hid hQ
 rw [←hQ]
 go_loopg [6] (N - 1) (fun gk vi wr=> ∃k:Nat,k+1≤N∧gk=N - 1 - k∧vi = .int .i64 ((k:Int)+1)∧Hid (wr.cell? ⟨Q+1,0,none⟩=some (.int .i64 (pickMax (xs.take (k+1))).kind)∧wr.cell? ⟨Q+1,1,none⟩=some (.int .i64 (pickMax (xs.take (k+1))).n)∧wr.cell? ⟨Q+1,2,none⟩=some (.string (pickMax (xs.take (k+1))).s))∧Hid (FreeN wr (Q+1) 3)∧Hid (FreeN wr Q 3)∧Hid (Ext w wr))
 case atStart =>
  refine⟨0,by omega,rfl,rfl,⟨?_,?_,?_⟩,fun j hj=> ?_,fun j hj=> ?_,((Ext.refl w).alloc _).alloc _⟩
  ·rw [hQ];go_simp
  ·rw [hQ];go_simp
  ·rw [hQ];go_simp
  ·rw [hQ]
   match j,hj with
   |0,_=>exact⟨⟨.int .i64 (pickMax (xs.take 1)).kind,by go_simp⟩,by go_simp⟩
   |1,_=>exact⟨⟨.int .i64 (pickMax (xs.take 1)).n,by go_simp⟩,by go_simp⟩
   |2,_=>exact⟨⟨.string (pickMax (xs.take 1)).s,by go_simp⟩,by go_simp⟩
  ·rw [hQ]
   match j,hj with
   |0,_=>exact⟨⟨.int .i64 0,by go_simp⟩,by go_simp⟩
   |1,_=>exact⟨⟨.int .i64 0,by go_simp⟩,by go_simp⟩
   |2,_=>exact⟨⟨.string ⟨#[]⟩,by go_simp⟩,by go_simp⟩
 case round =>
  clear hQ c0 c1 c2 e0
  obtain⟨k,hk,rfl,rfl,MM,FM,FR,HX⟩:=hrel
  by_cases hlt:k+1<N
  ·have hkl:k+1<xs.length:=by have:=HN.out;omega
   have hd:decide ((k:Int)+1<(N:Int))=true:=by simp;omega
   obtain⟨c0,c1,c2,rr0,rr1⟩:=val_cells HV.out (k+1) hkl
   clear rr0 rr1
   replace c0:=HX.out.at c0
   replace c1:=HX.out.at c1
   replace c2:=HX.out.at c2
   have hst:pickMax (xs.take (k+1+1))=if (fun y m=>0<cmpVal y m) xs[k+1] (pickMax (xs.take (k+1)))then xs[k+1]else pickMax (xs.take (k+1)):=by
    rw [List.take_succ_eq_append_getElem hkl]
    exact pickMax_snoc (fun h=>by have h5:=congrArg List.length h;rw [List.length_take,List.length_nil]at h5;omega) _
   generalize xs[k+1]=y at c0 c1 c2 hst
   obtain⟨m,hm⟩ : ∃m,m=pickMax (xs.take (k+1)):=⟨_,rfl⟩
   rw [←hm]at MM hst
   obtain⟨yk,yn,ys⟩:=y
   obtain⟨mk,mn,ms⟩:=m
   dsimp only at c0 c1 c2 hst
   have m0:=MM.out.1
   have m1:=MM.out.2.1
   have m2:=MM.out.2.2
   dsimp only at m0 m1 m2
   have e1:=cell_lt c0
   have e2:=cell_lt m0
   have HST:=Lib.hid hst
   have hj1:k+1<N:=hlt
   have hj2:(k:Int)+1<(N:Int):=by omega
   have hj3:0≤(k:Int)+1:=by omega
   have X0:=Lib.hid (show Ext wr wr.drew from (Ext.refl wr).drew)
   have hw4:IntKind.i64.wrap ((k:Int)+1+1)=(k:Int)+1+1:=by rw [IntKind.wrap_i64];omega
   clear hst hkl hm
   go_wp2_with fail
   go_region_law (first
    |((with_reducible refine key_op 26 ?_);go_simp;refine(compare_val ⟨yk,yn,ys⟩ ⟨mk,mn,ms⟩ _).mono ?_;rintro e w5 ⟨rfl,x5⟩;have X5:Hid (Ext wr w5):=Lib.hid (X0.out.trans x5.ext)))
   all_goals
    generalize hq:cmpVal ⟨yk,yn,ys⟩ ⟨mk,mn,ms⟩=q
    have HQQ:=Lib.hid hq
    clear hq
    replace c0:=X5.out.at c0
    replace c1:=X5.out.at c1
    replace c2:=X5.out.at c2
    obtain⟨⟨⟨z0,f0⟩,g0⟩,⟨⟨z1,f1⟩,g1⟩,⟨⟨z2,f2⟩,g2⟩⟩:=And.intro (FM.out.ext X5.out 0 (by omega)) (And.intro (FM.out.ext X5.out 1 (by omega)) (FM.out.ext X5.out 2 (by omega)))
    have e5:=cell_lt f0
    clear m0 m1 m2
    by_cases hq0:0<q
    ·have hqb:decide (0<q)=true:=by simp [hq0]
     have HQ0:=Lib.hid hq0
     clear hq0
     go_wp2_with fail
     have CH:Chg (fun x=>x=Q+1) wr (((w5.setCell ⟨Q+1,0,none⟩ (.int .i64 yk)).setCell ⟨Q+1,1,none⟩ (.int .i64 yn)).setCell ⟨Q+1,2,none⟩ (.string ys)):=(((X5.out.chg (fun x=>x=Q+1)).setCell (p:=⟨Q+1,0,none⟩) (.inl rfl) _).setCell (p:=⟨Q+1,1,none⟩) (.inl rfl) _).setCell (p:=⟨Q+1,2,none⟩) (.inl rfl) _
     have X7:Ext w (((w5.setCell ⟨Q+1,0,none⟩ (.int .i64 yk)).setCell ⟨Q+1,1,none⟩ (.int .i64 yn)).setCell ⟨Q+1,2,none⟩ (.string ys)):=Below.setCell (Below.setCell (Below.setCell (HX.out.trans X5.out) (by have:=HQ.out;show w.heap.size≤Q+1;omega) _) (by have:=HQ.out;show w.heap.size≤Q+1;omega) _) (by have:=HQ.out;show w.heap.size≤Q+1;omega) _
     have q0:(((w5.setCell ⟨Q+1,0,none⟩ (.int .i64 yk)).setCell ⟨Q+1,1,none⟩ (.int .i64 yn)).setCell ⟨Q+1,2,none⟩ (.string ys)).cell? ⟨Q+1,0,none⟩=some (.int .i64 yk):=by go_simp
     have q1:(((w5.setCell ⟨Q+1,0,none⟩ (.int .i64 yk)).setCell ⟨Q+1,1,none⟩ (.int .i64 yn)).setCell ⟨Q+1,2,none⟩ (.string ys)).cell? ⟨Q+1,1,none⟩=some (.int .i64 yn):=by go_simp
     have q2:(((w5.setCell ⟨Q+1,0,none⟩ (.int .i64 yk)).setCell ⟨Q+1,1,none⟩ (.int .i64 yn)).setCell ⟨Q+1,2,none⟩ (.string ys)).cell? ⟨Q+1,2,none⟩=some (.string ys):=by go_simp
     have FM7:=Lib.hid ((((FM.out.ext X5.out).set 0 (.int .i64 yk)).set 1 (.int .i64 yn)).set 2 (.string ys))
     generalize (((w5.setCell ⟨Q+1,0,none⟩ (.int .i64 yk)).setCell ⟨Q+1,1,none⟩ (.int .i64 yn)).setCell ⟨Q+1,2,none⟩ (.string ys))=w7 at CH X7 q0 q1 q2 FM7 ⊢
     have FR7:=Lib.hid (FR.out.chg CH (by omega))
     have HX7:=Lib.hid X7
     have MM7:=Lib.hid (And.intro q0 (And.intro q1 q2))
     clear CH X7 q0 q1 q2 f0 g0 f1 g1 f2 g2 c0 c1 c2
     go_wp2_with fail
     go_roundg (N - 1 - (k+1))
     case measure=>omega
     case rel =>
       refine⟨k+1,by omega,rfl,by go_num,?_,FM7.out,FR7.out,HX7.out⟩
       rw [HST.out,if_pos (by show 0<cmpVal ⟨yk,yn,ys⟩ ⟨mk,mn,ms⟩;rw [HQQ.out];have h5:=HQ0.out;omega)]
       exact MM7.out
    ·have hqb:decide (0<q)=false:=by simp [hq0]
     have HQ0:=Lib.hid hq0
     clear hq0
     go_wp2_with fail
     go_roundg (N - 1 - (k+1))
     case measure=>omega
     case rel =>
       refine⟨k+1,by omega,rfl,by go_num,?_,FM.out.ext X5.out,FR.out.ext X5.out,HX.out.trans X5.out⟩
       rw [HST.out,if_neg (by show ¬ 0<cmpVal ⟨yk,yn,ys⟩ ⟨mk,mn,ms⟩;rw [HQQ.out];have h5:=HQ0.out;omega)]
       exact⟨X5.out.at MM.out.1,X5.out.at MM.out.2.1,X5.out.at MM.out.2.2⟩
  ·have hkN:k+1=N:=by omega
   have hd : ¬(k:Int)+1<(N:Int):=by omega
   have hxt:xs.take (k+1)=xs:=by rw [hkN,HN.out];exact List.take_length
   rw [hxt]at MM
   obtain⟨m,hm⟩ : ∃m,m=pickMax xs:=⟨_,rfl⟩
   rw [←hm]at MM
   have HM:=Lib.hid hm
   obtain⟨mk,mn,ms⟩:=m
   have m0:=MM.out.1
   have m1:=MM.out.2.1
   have m2:=MM.out.2.2
   dsimp only at m0 m1 m2
   obtain⟨⟨⟨z0,f0⟩,g0⟩,⟨⟨z1,f1⟩,g1⟩,⟨⟨z2,f2⟩,g2⟩⟩:=And.intro (FR.out 0 (by omega)) (And.intro (FR.out 1 (by omega)) (FR.out 2 (by omega)))
   have e1:=cell_lt m0
   have e5:=cell_lt f0
   clear hxt hm hkN
   go_wp2_with fail
   have XF : ∀u v z,Ext w (((wr.setCell ⟨Q,0,none⟩ u).setCell ⟨Q,1,none⟩ v).setCell ⟨Q,2,none⟩ z):=fun u v z=>Below.setCell (Below.setCell (Below.setCell HX.out (by have:=HQ.out;show w.heap.size≤Q;omega) _) (by have:=HQ.out;show w.heap.size≤Q;omega) _) (by have:=HQ.out;show w.heap.size≤Q;omega) _
   exact bodyPost_ret (v:= .agg #[.int .i64 mk,.int .i64 mn,.string ms]) (by simp [results,Tryz.results162,go_sem,f0,f1,f2]) rfl ⟨by rw [←HM.out];first | done | rfl,XF _ _ _⟩
def colOf (es:List ExprI) (arg:Int):Int:=(es.map ExprI.col).getD arg.toNat 0
end Go.Proofs.YtkddkbpoefidpaaGreatDoor
namespace Go.Proofs.YtkddkbpoefidpaaGreatDoor
open Go.RowKit
instance:Inhabited ExprI:=⟨⟨0,0,0,0,nV⟩⟩
instance:Inhabited Val:=⟨nV⟩
def arityE (op:Int):Int:=if op=1∨op=2 then 0 else if op=10∨op=11 then 1 else if 3≤op∧op≤9 then 2 else -1
theorem arityE_le (op:Int) : -1≤arityE op∧arityE op≤2:=by
 unfold arityE
 split
 ·omega
 split
 ·omega
 split <;> omega
def opsE (x:ExprI):List Int:= [x.a,x.b].take (arityE x.op).toNat
theorem opsE_len (x:ExprI):(opsE x).length=(arityE x.op).toNat:=by
 have:=arityE_le x.op
 unfold opsE
 rw [List.length_take]
 simp only [List.length_cons,List.length_nil]
 omega
def boolV (b:Bool):Val:=⟨3,if b=true then 1 else 0,ByteArray.empty⟩
def trueV (v:Val):Bool:=decide (v.kind=3)&&decide (v.n=1)
def arithI (op a b:Int):Int:=if op=3 then a+b else if op=4 then a - b else a*b
def fit64 (z:Int):Prop:= -9223372036854775808≤z∧z≤9223372036854775807
instance (z:Int):Decidable (fit64 z):=by unfold fit64;infer_instance
def arithV (op:Int) (a b:Val):Val:=if a.kind=1∧b.kind=1∧fit64 (arithI op a.n b.n)then intVal (arithI op a.n b.n)else nV
def eqV (a b:Val):Bool:=decide (a.kind≠0)&&decide (b.kind≠0)&&decide (cmpVal a b=0)
def lessV (a b:Val):Bool:=decide (a.kind≠0)&&decide (a.kind=b.kind)&&decide (cmpVal a b<0)
def applyV (x:ExprI) (a b:Val) (row:List Val):Val :=
 if x.op=1 then x.c
 else if x.op=2 then colAt row x.col
 else if 3≤x.op∧x.op≤5 then arithV x.op a b
 else if x.op=6 then boolV (eqV a b)
 else if x.op=7 then boolV (lessV a b)
 else if x.op=8 then boolV (trueV a&&trueV b)
 else if x.op=9 then boolV (trueV a||trueV b)
 else if x.op=10 then boolV (!trueV a)
 else if x.op=11 then boolV (decide (a.kind=0))
 else nV
def legalE (i:Nat) (x:ExprI):Bool:=(opsE x).all fun o=>decide (0≤o)&&decide (o<i)
def argE (done:List Val) (o:Int):Val:=done.getD o.toNat nV
def argsE (x:ExprI) (done:List Val):List Val:=(opsE x).map (argE done)
def stepE (row done:List Val) (x:ExprI):Val:=if legalE done.length x=true then applyV x ((argsE x done).getD 0 nV) ((argsE x done).getD 1 nV) row else nV
def evalAll (es:List ExprI) (row:List Val):Nat→List Val
 |0=> []
 |k+1=>evalAll es row k ++ [stepE row (evalAll es row k) es[k]!]
def evalE (es:List ExprI) (root:Int) (row:List Val):Val:=if 0≤root∧root<es.length then(evalAll es row (root.toNat+1)).getD root.toNat nV else nV
theorem evalAll_len (es:List ExprI) (row:List Val) (k:Nat):(evalAll es row k).length=k:=by
 induction k with
 |zero=>rfl
 |succ k ih=>rw [evalAll,List.length_append,ih];rfl
theorem evalAll_get (es:List ExprI) (row:List Val) (k j:Nat) (h:j<k):(evalAll es row k).getD j nV=stepE row (evalAll es row j) es[j]! := by
 induction k with
 |zero=>omega
 |succ k ih =>
  rw [evalAll,List.getD_eq_getElem?_getD]
  by_cases c:j<k
  ·rw [List.getElem?_append_left (by rw [evalAll_len];exact c),←List.getD_eq_getElem?_getD,ih c]
  ·have e:j=k:=by omega
   subst e
   rw [List.getElem?_append_right (by rw [evalAll_len];exact Nat.le_refl _),evalAll_len,Nat.sub_self]
   rfl
theorem evalE_step (es:List ExprI) (row:List Val) (r:Nat) (h:r<es.length):evalE es r row=stepE row (evalAll es row r) es[r]:=by
 unfold evalE
 rw [if_pos ⟨by omega,by omega⟩,Int.toNat_natCast,evalAll_get es row (r+1) r (by omega),getElem!_pos es r h]
theorem ok_intVal {z:Int} (h:fit64 z):okVal (intVal z):=⟨by simp [intVal],h,by simp [intVal,maxLen]⟩
theorem ok_boolV (b:Bool):okVal (boolV b):=⟨by simp [boolV],by cases b <;> simp [boolV],by simp [boolV,maxLen]⟩
theorem ok_arithV (op:Int) (a b:Val):okVal (arithV op a b):=by
 unfold arithV
 split
 ·rename_i h;exact ok_intVal h.2.2
 ·exact ok_nV
theorem ok_applyV {x:ExprI} {row:List Val} (hc:okVal x.c) (hr : ∀v∈row,okVal v) (a b:Val):okVal (applyV x a b row):=by
 unfold applyV
 split
 ·exact hc
 split
 ·exact ok_colAt hr _
 split
 ·exact ok_arithV _ _ _
 iterate 6 (split;· exact ok_boolV _)
 exact ok_nV
theorem ok_evalAll {es:List ExprI} {row:List Val} (he : ∀x∈es,okVal x.c) (hr : ∀v∈row,okVal v) : ∀(k:Nat),k≤es.length→ ∀v∈evalAll es row k,okVal v:=by
 intro k
 induction k with
 |zero=>intro _ v hv;cases hv
 |succ k ih =>
  intro hk v hv
  rw [evalAll]at hv
  rcases List.mem_append.1 hv with hv | hv
  ·exact ih (by omega) v hv
  ·rw [List.mem_singleton]at hv
   subst hv
   unfold stepE
   split
   ·exact ok_applyV (he _ (by rw [getElem!_pos es k (by omega)];exact List.getElem_mem _)) hr _ _
   ·exact ok_nV
theorem ok_getD {l:List Val} (h : ∀v∈l,okVal v) (j:Nat):okVal (l.getD j nV):=by
 rw [List.getD_eq_getElem?_getD]
 by_cases c:j<l.length
 ·rw [List.getElem?_eq_getElem c];exact h _ (List.getElem_mem c)
 ·rw [List.getElem?_eq_none (by omega)];exact ok_nV
theorem ok_evalE {es:List ExprI} {row:List Val} (he : ∀x∈es,okVal x.c) (hr : ∀v∈row,okVal v) (root:Int):okVal (evalE es root row):=by
 unfold evalE
 split
 ·exact ok_getD (ok_evalAll he hr _ (by omega)) _
 ·exact ok_nV
def fitV (v:Val):Prop:=v.s.size≤1048576
theorem fit_nV:fitV nV:=Nat.zero_le _
theorem fit_applyV {x:ExprI} {row:List Val} (hc:fitV x.c) (hr : ∀v∈row,fitV v) (a b:Val):fitV (applyV x a b row):=by
 have hb : ∀b:Bool,fitV (boolV b):=fun b=>Nat.zero_le _
 unfold applyV
 split
 ·exact hc
 split
 ·unfold colAt
  split
  ·rename_i h
   have hlt:x.col.toNat<row.length:=by omega
   rw [List.getD_eq_getElem?_getD,List.getElem?_eq_getElem hlt]
   exact hr _ (List.getElem_mem _)
  ·exact fit_nV
 split
 ·unfold arithV;split
  ·exact Nat.zero_le _
  ·exact fit_nV
 iterate 6 (split;· exact hb _)
 exact fit_nV
theorem fit_evalE {es:List ExprI} {row:List Val} (he : ∀x∈es,fitV x.c) (hr : ∀v∈row,fitV v) (root:Int):fitV (evalE es root row):=by
 by_cases h:0≤root∧root<es.length
 ·obtain⟨r,rfl⟩ : ∃r:Nat,root=r:=⟨root.toNat,by omega⟩
  have hr2:r<es.length:=by omega
  rw [evalE_step es row r hr2]
  unfold stepE
  split
  ·exact fit_applyV (he _ (List.getElem_mem _)) hr _ _
  ·exact fit_nV
 ·unfold evalE
  rw [if_neg h]
  exact fit_nV
theorem opsE_1 {x:ExprI} (h:arityE x.op=1):opsE x = [x.a]:=by
 unfold opsE
 rw [h]
 rfl
theorem opsE_2 {x:ExprI} (h:arityE x.op=2):opsE x = [x.a,x.b]:=by
 unfold opsE
 rw [h]
 rfl
end Go.Proofs.YtkddkbpoefidpaaGreatDoor
namespace Go.Proofs.YtkddkbpoefidpaaGreatDoor
open Go.RowKit
set_option maxHeartbeats 1000000 in
theorem arity_any (op:Int) (w:World):Calls Tryz.prog 216 #[.int .i64 op] w fun e w'=>e = .returned (.int .i64 (arityE op))∧w=w':=by
 by_cases h:1≤op∧op≤11
 ·have h2:op=1∨op=2∨op=3∨op=4∨op=5∨op=6∨op=7∨op=8∨op=9∨op=10∨op=11:=by omega
  clear h
  rcases h2 with rfl | rfl | rfl | rfl | rfl | rfl | rfl | rfl | rfl | rfl | rfl
  all_goals
   go_enter Tryz.func216,Tryz.ntmps216
   go_wp2_with fail
   go_ret
   exact⟨rfl,rfl⟩
 ·have b1:(op==1)=false:=by simp;omega
  have b2:(op==2)=false:=by simp;omega
  have b3:(op==3)=false:=by simp;omega
  have b4:(op==4)=false:=by simp;omega
  have b5:(op==5)=false:=by simp;omega
  have b6:(op==6)=false:=by simp;omega
  have b7:(op==7)=false:=by simp;omega
  have b8:(op==8)=false:=by simp;omega
  have b9:(op==9)=false:=by simp;omega
  have b10:(op==10)=false:=by simp;omega
  have b11:(op==11)=false:=by simp;omega
  have ha:arityE op = -1:=by
   unfold arityE
   rw [if_neg (by omega),if_neg (by omega),if_neg (by omega)]
  rw [ha]
  clear h ha
  go_enter Tryz.func216,Tryz.ntmps216
  go_wp2_with fail
  go_ret
  exact⟨rfl,rfl⟩
set_option maxHeartbeats 1000000 in
theorem legal_any (i o:Int) (w:World):Calls Tryz.prog 155 #[.int .i64 i,.int .i64 o] w fun e w'=>e = .returned (.bool (decide (0≤o)&&decide (o<i)))∧w=w':=by
 by_cases h0:0≤o
 ·have d0:decide (0≤o)=true:=decide_eq_true h0
  rw [d0,Bool.true_and]
  go_enter Tryz.func155,Tryz.ntmps155
  go_wp2_with fail
  go_ret
  exact⟨rfl,rfl⟩
 ·have d0:decide (0≤o)=false:=decide_eq_false h0
  rw [d0,Bool.false_and]
  clear h0
  go_enter Tryz.func155,Tryz.ntmps155
  go_wp2_with fail
  go_ret
  exact⟨rfl,rfl⟩
set_option maxHeartbeats 1000000 in
theorem boolean_any (b:Bool) (w:World):Calls Tryz.prog 218 #[.bool b] w fun e w'=>e = .returned (valV (boolV b))∧Ext w w':=by
 cases b
 ·go_enter Tryz.func218,Tryz.ntmps218
  go_wp2_with fail
  exact bodyPost_ret (v:=valV (boolV false)) (by simp [results,Tryz.results218,go_sem,valV,boolV];rfl) rfl ⟨rfl,(Ext.refl w).alloc _⟩
 ·go_enter Tryz.func218,Tryz.ntmps218
  go_wp2_with fail
  exact bodyPost_ret (v:=valV (boolV true)) (by simp [results,Tryz.results218,go_sem,valV,boolV];rfl) rfl ⟨rfl,(Ext.refl w).alloc _⟩
set_option maxHeartbeats 1000000 in
theorem isTrue_any (v:Val) (w:World):Calls Tryz.prog 219 #[valV v] w fun e w'=>e = .returned (.bool (trueV v))∧Ext w w':=by
 obtain⟨k,n,s⟩:=v
 unfold trueV valV
 dsimp only
 by_cases h:k=3
 ·subst h
  have d:decide ((3:Int)=3)=true:=rfl
  have e:(n==1)=decide (n=1):=by rw [Bool.eq_iff_iff];simp
  have HE:=Lib.hid e
  rw [d,Bool.true_and]
  clear d e
  go_enter Tryz.func219,Tryz.ntmps219
  go_wp2_with fail
  go_ret
  exact⟨ret_bool HE.out,(Ext.refl w).alloc _⟩
 ·have b:(k==3)=false:=by simp [h]
  have d:decide (k=3)=false:=decide_eq_false h
  rw [d,Bool.false_and]
  clear d h
  go_enter Tryz.func219,Tryz.ntmps219
  go_wp2_with fail
  go_ret
  exact⟨rfl,(Ext.refl w).alloc _⟩
theorem mag_neg {a:Int} (h:a<0) (h0 : -9223372036854775808≤a):IntKind.u64.wrap (-IntKind.u64.wrap a)=(a.natAbs:Int):=by
 rw [IntKind.wrap_u64,IntKind.wrap_u64];omega
theorem mag_pos {a:Int} (h:0≤a) (h1:a≤9223372036854775807):IntKind.u64.wrap a=(a.natAbs:Int):=by
 rw [IntKind.wrap_u64];omega
set_option maxHeartbeats 1000000 in
theorem magnitude_any (a:Int) (ha:fit64 a) (w:World):Calls Tryz.prog 315 #[.int .i64 a] w fun e w'=>e = .returned (.int .u64 (a.natAbs:Int))∧w=w':=by
 unfold fit64 at ha
 by_cases h:a<0
 ·have HM:=Lib.hid (mag_neg h ha.1)
  have d:decide (a<0)=true:=decide_eq_true h
  clear h ha
  go_enter Tryz.func315,Tryz.ntmps315
  go_wp2_with fail
  go_ret
  exact⟨ret_int HM.out,rfl⟩
 ·have HM:=Lib.hid (mag_pos (by omega) ha.2)
  have d:decide (a<0)=false:=decide_eq_false h
  clear h ha
  go_enter Tryz.func315,Tryz.ntmps315
  go_wp2_with fail
  go_ret
  exact⟨ret_int HM.out,rfl⟩
theorem mul_same {a b:Int} (h:decide (a<0)=decide (b<0)):a*b=((a.natAbs*b.natAbs:Nat):Int):=by
 rw [Int.natCast_mul]
 by_cases h1:a<0
 ·have h2:b<0:=by simpa [h1] using h
  rw [show (a.natAbs:Int) = -a by omega,show (b.natAbs:Int) = -b by omega,Int.neg_mul_neg]
 ·have h2 : ¬b<0:=by simpa [h1] using h
  rw [show (a.natAbs:Int)=a by omega,show (b.natAbs:Int)=b by omega]
theorem mul_other {a b:Int} (h:decide (a<0)≠decide (b<0)):a*b = -((a.natAbs*b.natAbs:Nat):Int):=by
 rw [Int.natCast_mul]
 by_cases h1:a<0
 ·have h2 : ¬b<0:=by simpa [h1] using h
  rw [show (a.natAbs:Int) = -a by omega,show (b.natAbs:Int)=b by omega,Int.neg_mul,Int.neg_neg]
 ·have h2:b<0:=by simpa [h1] using h
  rw [show (a.natAbs:Int)=a by omega,show (b.natAbs:Int) = -b by omega,Int.mul_neg,Int.neg_neg]
def MulRes (z:Int) (e:Ending):Prop:= ∃n,e = .returned (.tuple #[.int .i64 n,.bool (decide (fit64 z))])∧(fit64 z→n=z)
theorem mulRes_mk {z n:Int} {b:Bool} {e:Ending} (he:e = .returned (.tuple #[.int .i64 n,.bool b])) (hb:b=true↔fit64 z) (hn:fit64 z→n=z):MulRes z e:=by
 refine⟨n,?_,hn⟩
 rw [he]
 have:b=decide (fit64 z):=by rw [Bool.eq_iff_iff,hb,decide_eq_true_eq]
 rw [this]
end Go.Proofs.YtkddkbpoefidpaaGreatDoor
namespace Go.Proofs.YtkddkbpoefidpaaGreatDoor
open Go.RowKit
theorem mul_fit_same {a b:Int} {hi lo:Nat} (h:decide (a<0)=decide (b<0)) (hp:a.natAbs*b.natAbs=hi*18446744073709551616+lo) (hl:lo<18446744073709551616) :
  (fit64 (a*b)↔hi=0∧lo≤9223372036854775807)∧(fit64 (a*b)→IntKind.i64.wrap (lo:Int)=a*b):=by
 rw [mul_same h,hp]
 unfold fit64
 refine⟨by omega,fun g=> ?_⟩
 rw [IntKind.wrap_i64]
 omega
theorem mul_fit_other {a b:Int} {hi lo:Nat} (h:decide (a<0)≠decide (b<0)) (hp:a.natAbs*b.natAbs=hi*18446744073709551616+lo) (hl:lo<18446744073709551616) :
  (fit64 (a*b)↔hi=0∧lo≤9223372036854775808)∧(fit64 (a*b)→IntKind.i64.wrap (-IntKind.i64.wrap (lo:Int))=a*b):=by
 rw [mul_other h,hp]
 unfold fit64
 refine⟨by omega,fun g=> ?_⟩
 rw [IntKind.wrap_i64,IntKind.wrap_i64]
 omega
theorem fin_same {a b:Int} {hi lo:Nat} {t:Bool} (h:decide (a<0)=decide (b<0)) (hp:a.natAbs*b.natAbs=hi*18446744073709551616+lo) (hl:lo<18446744073709551616) (ht:t=true↔hi=0∧lo≤9223372036854775807) :
 MulRes (a*b) (.returned (.tuple #[.int .i64 (wrap64 (lo:Int)),.bool t])):=mulRes_mk rfl (ht.trans (mul_fit_same h hp hl).1.symm) fun g=>by have h2:=(mul_fit_same h hp hl).2 g;rw [IntKind.wrap_i64]at h2;unfold wrap64;exact h2
theorem fin_other {a b:Int} {hi lo:Nat} {t:Bool} (h:decide (a<0)≠decide (b<0)) (hp:a.natAbs*b.natAbs=hi*18446744073709551616+lo) (hl:lo<18446744073709551616) (ht:t=true↔hi=0∧lo≤9223372036854775808) :
 MulRes (a*b) (.returned (.tuple #[.int .i64 (wrap64 (-wrap64 (lo:Int))),.bool t])):=mulRes_mk rfl (ht.trans (mul_fit_other h hp hl).1.symm) fun g=>by have h2:=(mul_fit_other h hp hl).2 g;rw [IntKind.wrap_i64,IntKind.wrap_i64]at h2;unfold wrap64;exact h2
theorem iff_yes {p:Prop} (h:p):(true=true)↔p:=⟨fun _=>h,fun _=>rfl⟩
theorem iff_no {p:Prop} (h : ¬p):(false=true)↔p:=⟨fun g=>(by cases g),fun g=>absurd g h⟩
set_option maxRecDepth 100000 in
set_option maxHeartbeats 4000000 in
theorem multiply_any (a b:Int) (ha:fit64 a) (hb:fit64 b) (w:World):Calls Tryz.prog 270 #[.int .i64 a,.int .i64 b] w fun e w'=>MulRes (a*b) e∧w=w':=by
 have HA:=Lib.hid ha
 have HB:=Lib.hid hb
 have hna:a.natAbs<18446744073709551616:=by unfold fit64 at ha;omega
 have hnb:b.natAbs<18446744073709551616:=by unfold fit64 at hb;omega
 have HN:=Lib.hid (And.intro hna hnb)
 obtain⟨hi,hhi⟩ : ∃x,a.natAbs*b.natAbs / 18446744073709551616=x:=⟨_,rfl⟩
 obtain⟨lo,hlo⟩ : ∃x,a.natAbs*b.natAbs % 18446744073709551616=x:=⟨_,rfl⟩
 have hp:a.natAbs*b.natAbs=hi*18446744073709551616+lo:=by omega
 have hl:lo<18446744073709551616:=by omega
 have HHI:=Lib.hid (And.intro hhi hlo)
 have HP:=Lib.hid hp
 have HL:=Lib.hid hl
 obtain⟨P,hP⟩ : ∃P,P=fit64 (a*b):=⟨_,rfl⟩
 clear ha hb hna hnb hhi hlo hp hP
 by_cases h1:a<0
 all_goals by_cases h2:b<0
 all_goals by_cases h3:hi=0
 all_goals by_cases h4:lo≤9223372036854775807
 all_goals by_cases h5:lo≤9223372036854775808
 all_goals
  first |(exfalso;omega) | skip
 all_goals
  have d1:decide (a<0)=decide (a<0):=rfl
  first
   |(replace d1:decide (a<0)=true:=decide_eq_true h1)
   |(replace d1:decide (a<0)=false:=decide_eq_false h1)
  have d2:decide (b<0)=decide (b<0):=rfl
  first
   |(replace d2:decide (b<0)=true:=decide_eq_true h2)
   |(replace d2:decide (b<0)=false:=decide_eq_false h2)
  have d3:((hi:Int)==0)=((hi:Int)==0):=rfl
  first
   |(replace d3:((hi:Int)==0)=true:=by simp;omega)
   |(replace d3:((hi:Int)==0)=false:=by simp;omega)
  have d4:decide ((lo:Int)≤9223372036854775807)=decide ((lo:Int)≤9223372036854775807):=rfl
  first
   |(replace d4:decide ((lo:Int)≤9223372036854775807)=true:=by simp;omega)
   |(replace d4:decide ((lo:Int)≤9223372036854775807)=false:=by simp;omega)
  have d5:decide ((lo:Int)≤9223372036854775808)=decide ((lo:Int)≤9223372036854775808):=rfl
  first
   |(replace d5:decide ((lo:Int)≤9223372036854775808)=true:=by simp;omega)
   |(replace d5:decide ((lo:Int)≤9223372036854775808)=false:=by simp;omega)
  have H:=Lib.hid (And.intro h1 (And.intro h2 (And.intro h3 (And.intro h4 h5))))
  clear h1 h2 h3 h4 h5
  go_enter Tryz.func270,Tryz.ntmps270
  go_wp2_with fail
  refine(magnitude_any a HA.out _).mono ?_
  rintro e w1 ⟨rfl,rfl⟩
  go_wp2_with fail
  refine(magnitude_any b HB.out _).mono ?_
  rintro e w1 ⟨rfl,rfl⟩
  go_wp2_with fail
  refine(Tryz.bits_Mul64 a.natAbs b.natAbs HN.out.1 HN.out.2 _).mono ?_
  rintro e w1 ⟨rfl,rfl⟩
  rw [HHI.out.1,HHI.out.2]
  go_wp2_with fail
  go_ret2
  obtain⟨h1,h2,h3,h4,h5⟩:=H.out
  first
   |exact⟨fin_same (d1.trans d2.symm) HP.out HL.out (iff_yes ⟨h3,h4⟩),rfl⟩
   |exact⟨fin_same (d1.trans d2.symm) HP.out HL.out (iff_no (fun g=>h3 g.1)),rfl⟩
   |exact⟨fin_same (d1.trans d2.symm) HP.out HL.out (iff_no (fun g=>h4 g.2)),rfl⟩
   |exact⟨fin_other (by rw [d1,d2];decide) HP.out HL.out (iff_yes ⟨h3,h5⟩),rfl⟩
   |exact⟨fin_other (by rw [d1,d2];decide) HP.out HL.out (iff_no (fun g=>h3 g.1)),rfl⟩
   |exact⟨fin_other (by rw [d1,d2];decide) HP.out HL.out (iff_no (fun g=>h5 g.2)),rfl⟩
end Go.Proofs.YtkddkbpoefidpaaGreatDoor
namespace Go.Proofs.YtkddkbpoefidpaaGreatDoor
open Go.RowKit
theorem arith_yes {op:Int} {a b:Val} (h1:a.kind=1) (h2:b.kind=1) (h:fit64 (arithI op a.n b.n)):arithV op a b=intVal (arithI op a.n b.n):=if_pos ⟨h1,h2,h⟩
theorem arith_no {op:Int} {a b:Val} (h : ¬(a.kind=1∧b.kind=1∧fit64 (arithI op a.n b.n))):arithV op a b=nV:=if_neg h
set_option maxRecDepth 100000 in
set_option maxHeartbeats 4000000 in
theorem arithmetic_add (a b:Val) (h1:a.kind=1) (h2:b.kind=1) (ha:okVal a) (hb:okVal b) (w:World):Calls Tryz.prog 217 #[.int .i64 3,valV a,valV b] w fun e w'=>e = .returned (valV (arithV 3 a b))∧Ext w w':=by
 have HY:=Lib.hid (arith_yes (op:=3) h1 h2)
 have HN:=Lib.hid (arith_no (op:=3) (a:=a) (b:=b))
 obtain⟨ak,an,sa⟩:=a
 obtain⟨bk,bn,sb⟩:=b
 dsimp only at h1 h2
 subst h1 h2
 obtain⟨z,hz⟩ : ∃z,arithV 3 ⟨1,an,sa⟩ ⟨1,bn,sb⟩=z:=⟨_,rfl⟩
 rw [hz]at HY HN ⊢
 have hra:=ha.2.1
 have hrb:=hb.2.1
 dsimp only at hra hrb
 have hsum:arithI 3 an bn=an+bn:=rfl
 unfold valV
 dsimp only
 clear hz ha hb
 by_cases hf:fit64 (an+bn)
 ·have h3:=HY.out (by rw [hsum];exact hf)
  rw [hsum]at h3
  subst h3
  unfold fit64 at hf
  obtain⟨f1,f2⟩:=hf
  clear HY HN hsum
  rcases Int.lt_trichotomy bn 0 with h | h | h
  ·have d1:decide (0<bn)=false:=by simp;omega
   have d2:decide (an<an+bn)=false:=by simp;omega
   clear hra hrb h
   go_enter Tryz.func217,Tryz.ntmps217
   go_wp2_with fail
   exact bodyPost_ret (v:=valV (intVal (an+bn))) (by simp [results,Tryz.results217,go_sem,valV,intVal];rfl) rfl ⟨rfl,(((Ext.refl w).alloc _).alloc _).alloc _⟩
  ·subst h
   clear hra hrb
   go_enter Tryz.func217,Tryz.ntmps217
   go_wp2_with fail
   exact bodyPost_ret (v:=valV (intVal (an+0))) (by simp [results,Tryz.results217,go_sem,valV,intVal];rfl) rfl ⟨rfl,(((Ext.refl w).alloc _).alloc _).alloc _⟩
  ·have d1:decide (0<bn)=true:=by simp;omega
   have d2:decide (an<an+bn)=true:=by simp;omega
   clear hra hrb h
   go_enter Tryz.func217,Tryz.ntmps217
   go_wp2_with fail
   exact bodyPost_ret (v:=valV (intVal (an+bn))) (by simp [results,Tryz.results217,go_sem,valV,intVal];rfl) rfl ⟨rfl,(((Ext.refl w).alloc _).alloc _).alloc _⟩
 ·have h3:=HN.out (by rintro⟨_,_,g⟩;rw [hsum]at g;exact hf g)
  subst h3
  unfold fit64 at hf
  obtain⟨n,hn⟩ : ∃n,IntKind.i64.wrap (an+bn)=n:=⟨_,rfl⟩
  have hn2:=hn
  rw [IntKind.wrap_i64]at hn2
  clear HY HN hsum
  rcases(show 0<bn∨bn≤0 by omega)with h | h
  ·have d1:decide (0<bn)=true:=by simp;omega
   have d2:decide (an<n)=false:=by simp;omega
   have d3:(bn==0)=false:=by simp;omega
   clear hra hrb h hf hn2
   go_enter Tryz.func217,Tryz.ntmps217
   go_wp2_with fail
   exact bodyPost_ret (v:=valV nV) (by simp [results,Tryz.results217,go_sem,valV,nV];rfl) rfl ⟨rfl,(((Ext.refl w).alloc _).alloc _).alloc _⟩
  ·have d1:decide (0<bn)=false:=by simp;omega
   have d2:decide (an<n)=true:=by simp;omega
   have d3:(bn==0)=false:=by simp;omega
   clear hra hrb h hf hn2
   go_enter Tryz.func217,Tryz.ntmps217
   go_wp2_with fail
   exact bodyPost_ret (v:=valV nV) (by simp [results,Tryz.results217,go_sem,valV,nV];rfl) rfl ⟨rfl,(((Ext.refl w).alloc _).alloc _).alloc _⟩
set_option maxRecDepth 100000 in
set_option maxHeartbeats 4000000 in
theorem arithmetic_sub (a b:Val) (h1:a.kind=1) (h2:b.kind=1) (ha:okVal a) (hb:okVal b) (w:World):Calls Tryz.prog 217 #[.int .i64 4,valV a,valV b] w fun e w'=>e = .returned (valV (arithV 4 a b))∧Ext w w':=by
 have HY:=Lib.hid (arith_yes (op:=4) h1 h2)
 have HN:=Lib.hid (arith_no (op:=4) (a:=a) (b:=b))
 obtain⟨ak,an,sa⟩:=a
 obtain⟨bk,bn,sb⟩:=b
 dsimp only at h1 h2
 subst h1 h2
 obtain⟨z,hz⟩ : ∃z,arithV 4 ⟨1,an,sa⟩ ⟨1,bn,sb⟩=z:=⟨_,rfl⟩
 rw [hz]at HY HN ⊢
 have hra:=ha.2.1
 have hrb:=hb.2.1
 dsimp only at hra hrb
 have hsum:arithI 4 an bn=an - bn:=rfl
 unfold valV
 dsimp only
 clear hz ha hb
 by_cases hf:fit64 (an - bn)
 ·have h3:=HY.out (by rw [hsum];exact hf)
  rw [hsum]at h3
  subst h3
  unfold fit64 at hf
  obtain⟨f1,f2⟩:=hf
  clear HY HN hsum
  rcases Int.lt_trichotomy bn 0 with h | h | h
  ·have d1:decide (0<bn)=false:=by simp;omega
   have d2:decide (an - bn<an)=false:=by simp;omega
   clear hra hrb h
   go_enter Tryz.func217,Tryz.ntmps217
   go_wp2_with fail
   exact bodyPost_ret (v:=valV (intVal (an - bn))) (by simp [results,Tryz.results217,go_sem,valV,intVal];rfl) rfl ⟨rfl,(((Ext.refl w).alloc _).alloc _).alloc _⟩
  ·subst h
   clear hra hrb
   go_enter Tryz.func217,Tryz.ntmps217
   go_wp2_with fail
   exact bodyPost_ret (v:=valV (intVal (an - 0))) (by simp [results,Tryz.results217,go_sem,valV,intVal];rfl) rfl ⟨rfl,(((Ext.refl w).alloc _).alloc _).alloc _⟩
  ·have d1:decide (0<bn)=true:=by simp;omega
   have d2:decide (an - bn<an)=true:=by simp;omega
   clear hra hrb h
   go_enter Tryz.func217,Tryz.ntmps217
   go_wp2_with fail
   exact bodyPost_ret (v:=valV (intVal (an - bn))) (by simp [results,Tryz.results217,go_sem,valV,intVal];rfl) rfl ⟨rfl,(((Ext.refl w).alloc _).alloc _).alloc _⟩
 ·have h3:=HN.out (by rintro⟨_,_,g⟩;rw [hsum]at g;exact hf g)
  subst h3
  unfold fit64 at hf
  obtain⟨n,hn⟩ : ∃n,IntKind.i64.wrap (an - bn)=n:=⟨_,rfl⟩
  have hn2:=hn
  rw [IntKind.wrap_i64]at hn2
  clear HY HN hsum
  rcases(show 0<bn∨bn≤0 by omega)with h | h
  ·have d1:decide (0<bn)=true:=by simp;omega
   have d2:decide (n<an)=false:=by simp;omega
   have d3:(bn==0)=false:=by simp;omega
   clear hra hrb h hf hn2
   go_enter Tryz.func217,Tryz.ntmps217
   go_wp2_with fail
   exact bodyPost_ret (v:=valV nV) (by simp [results,Tryz.results217,go_sem,valV,nV];rfl) rfl ⟨rfl,(((Ext.refl w).alloc _).alloc _).alloc _⟩
  ·have d1:decide (0<bn)=false:=by simp;omega
   have d2:decide (n<an)=true:=by simp;omega
   have d3:(bn==0)=false:=by simp;omega
   clear hra hrb h hf hn2
   go_enter Tryz.func217,Tryz.ntmps217
   go_wp2_with fail
   exact bodyPost_ret (v:=valV nV) (by simp [results,Tryz.results217,go_sem,valV,nV];rfl) rfl ⟨rfl,(((Ext.refl w).alloc _).alloc _).alloc _⟩
set_option maxRecDepth 100000 in
set_option maxHeartbeats 4000000 in
theorem arithmetic_mul (a b:Val) (h1:a.kind=1) (h2:b.kind=1) (ha:okVal a) (hb:okVal b) (w:World):Calls Tryz.prog 217 #[.int .i64 5,valV a,valV b] w fun e w'=>e = .returned (valV (arithV 5 a b))∧Ext w w':=by
 have HY:=Lib.hid (arith_yes (op:=5) h1 h2)
 have HN:=Lib.hid (arith_no (op:=5) (a:=a) (b:=b))
 have HA:=Lib.hid (show fit64 a.n from ha.2.1)
 have HB:=Lib.hid (show fit64 b.n from hb.2.1)
 obtain⟨ak,an,sa⟩:=a
 obtain⟨bk,bn,sb⟩:=b
 dsimp only at h1 h2 HA HB
 subst h1 h2
 obtain⟨z,hz⟩ : ∃z,arithV 5 ⟨1,an,sa⟩ ⟨1,bn,sb⟩=z:=⟨_,rfl⟩
 rw [hz]at HY HN ⊢
 have hsum:arithI 5 an bn=an*bn:=rfl
 have HS:=Lib.hid hsum
 unfold valV
 dsimp only
 clear hz ha hb hsum
 go_enter Tryz.func217,Tryz.ntmps217
 go_wp2_with fail
 refine(multiply_any an bn HA.out HB.out _).mono ?_
 rintro e w1 ⟨⟨n,rfl,hn⟩,rfl⟩
 by_cases hf:fit64 (an*bn)
 ·have h3:=HY.out (by rw [HS.out];exact hf)
  have hn2:=hn hf
  have hd:decide (fit64 (an*bn))=true:=decide_eq_true hf
  rw [hd]
  rw [HS.out,←hn2]at h3
  subst h3
  clear HY HN HS hn hf hn2 hd
  go_wp2_with fail
  exact bodyPost_ret (v:=valV (intVal n)) (by simp [results,Tryz.results217,go_sem,valV,intVal];rfl) rfl ⟨rfl,(((Ext.refl w).alloc _).alloc _).alloc _⟩
 ·have h3:=HN.out (by rintro⟨_,_,g⟩;rw [HS.out]at g;exact hf g)
  have hd:decide (fit64 (an*bn))=false:=decide_eq_false hf
  rw [hd]
  subst h3
  clear HY HN HS hn hf hd
  go_wp2_with fail
  exact bodyPost_ret (v:=valV nV) (by simp [results,Tryz.results217,go_sem,valV,nV];rfl) rfl ⟨rfl,(((Ext.refl w).alloc _).alloc _).alloc _⟩
set_option maxRecDepth 100000 in
set_option maxHeartbeats 4000000 in
theorem arithmetic_any (op:Int) (hop:op=3∨op=4∨op=5) (a b:Val) (ha:okVal a) (hb:okVal b) (w:World):Calls Tryz.prog 217 #[.int .i64 op,valV a,valV b] w fun e w'=>e = .returned (valV (arithV op a b))∧Ext w w':=by
 by_cases h1:a.kind=1
 ·by_cases h2:b.kind=1
  ·rcases hop with rfl | rfl | rfl
   ·exact arithmetic_add a b h1 h2 ha hb w
   ·exact arithmetic_sub a b h1 h2 ha hb w
   ·exact arithmetic_mul a b h1 h2 ha hb w
  ·have h3:arithV op a b=nV:=arith_no fun g=>h2 g.2.1
   rw [h3]
   obtain⟨ak,an,sa⟩:=a
   obtain⟨bk,bn,sb⟩:=b
   dsimp only at h1 h2
   subst h1
   have d:(bk != 1)=true:=by simp [h2]
   unfold valV
   dsimp only
   clear h2 h3 ha hb hop
   go_enter Tryz.func217,Tryz.ntmps217
   go_wp2_with fail
   exact bodyPost_ret (v:=valV nV) (by simp [results,Tryz.results217,go_sem,valV,nV];rfl) rfl ⟨rfl,(((Ext.refl w).alloc _).alloc _).alloc _⟩
 ·have h3:arithV op a b=nV:=arith_no fun g=>h1 g.1
  rw [h3]
  obtain⟨ak,an,sa⟩:=a
  obtain⟨bk,bn,sb⟩:=b
  dsimp only at h1
  have d:(ak != 1)=true:=by simp [h1]
  unfold valV
  dsimp only
  clear h1 h3 ha hb hop
  go_enter Tryz.func217,Tryz.ntmps217
  go_wp2_with fail
  exact bodyPost_ret (v:=valV nV) (by simp [results,Tryz.results217,go_sem,valV,nV];rfl) rfl ⟨rfl,(((Ext.refl w).alloc _).alloc _).alloc _⟩
end Go.Proofs.YtkddkbpoefidpaaGreatDoor
