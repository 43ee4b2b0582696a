/- breakPatterns of references. -/
import Derived.Test.YtaahfiopdoinkaaGreatTwbd
import Derived.Shelf.SlSortCmp.Xorshift
import Derived.Sort.LotD1
import Derived.Test.YtaahfiopdoinkaaGreatTwau
set_option maxRecDepth 100000
set_option maxHeartbeats 4000000
variable {p : Prop}
set_option linter.unusedVariables false
set_option linter.unusedSimpArgs false
open Go.RowKit
namespace Go.Proofs.YtaahfiopdoinkaaGreat
open Go.Shelf Go.Lib
open Go.RowKit Go.Sort
def Tryz.laysXn_ren : Go.Shelf.Ren:=⟨fun|48=>154|n=>n,fun|76=>249|55=>23|0=>0|66=>232|39=>173|n=>n,fun|n=>n⟩
theorem Tryz.laysXn : Go.Proofs.SlLaysF0.n48 Tryz.prog Tryz.laysXn_ren := {
  mixed:=O2
  f48:=Tryz.func154.trans (congrArg some O2)
  t0:=Tryz.underlying0
  a0:=Tryz.isAgg0
  z0:=Tryz.sizeOf0
  v0:=Tryz.zeroValue0
  t39:=Tryz.underlying173
  a39:=Tryz.isAgg173
  z39:=Tryz.sizeOf173
  v39:=Tryz.zeroValue173
  t55:=Tryz.underlying23
  a55:=Tryz.isAgg23
  z55:=Tryz.sizeOf23
  v55:=Tryz.zeroValue23
  t66:=Tryz.underlying232
  a66:=Tryz.isAgg232
  z66:=Tryz.sizeOf232
  v66:=Tryz.zeroValue232
  t76:=Tryz.underlying249
  a76:=Tryz.isAgg249
  z76:=Tryz.sizeOf249
  v76:=Tryz.zeroValue249}
def Tryz.laysNp_ren : Go.Shelf.Ren:=⟨fun|47=>153|15=>92|28=>129|29=>130|n=>n,fun|3=>3|39=>173|53=>212|55=>23|4=>4|5=>5|9=>9|n=>n,fun|n=>n⟩
theorem Tryz.laysNp : Go.Proofs.SlLaysF0.n47 Tryz.prog Tryz.laysNp_ren := {
  mixed:=O2
  f15:=Tryz.func92.trans (congrArg some O2)
  f28:=Tryz.func129.trans (congrArg some O2)
  f29:=Tryz.func130.trans (congrArg some O2)
  f47:=Tryz.func153.trans (congrArg some O2)
  t3:=Tryz.underlying3
  a3:=Tryz.isAgg3
  z3:=Tryz.sizeOf3
  v3:=Tryz.zeroValue3
  t4:=Tryz.underlying4
  a4:=Tryz.isAgg4
  z4:=Tryz.sizeOf4
  v4:=Tryz.zeroValue4
  t5:=Tryz.underlying5
  a5:=Tryz.isAgg5
  z5:=Tryz.sizeOf5
  v5:=Tryz.zeroValue5
  t9:=Tryz.underlying9
  a9:=Tryz.isAgg9
  z9:=Tryz.sizeOf9
  v9:=Tryz.zeroValue9
  t39:=Tryz.underlying173
  a39:=Tryz.isAgg173
  z39:=Tryz.sizeOf173
  v39:=Tryz.zeroValue173
  t53:=Tryz.underlying212
  a53:=Tryz.isAgg212
  z53:=Tryz.sizeOf212
  v53:=Tryz.zeroValue212
  t55:=Tryz.underlying23
  a55:=Tryz.isAgg23
  z55:=Tryz.sizeOf23
  v55:=Tryz.zeroValue23}
namespace Ts
open Ta (RF rfL PMap)
open Lv (DZ)
open Vt (Da)
variable {base blk n : Nat} {W W' w0 : World} {f g : Nat -> RF} {key : RF -> Nat} {Ok : RF -> Prop} {mb : Nat}
theorem next_any (rb X:Nat)(hX:X<18446744073709551616)(w:World)(hc:w.cell? ⟨rb,0,none⟩=some (.int .u64 X))(hf:w.frozen? ⟨rb,0,none⟩=false) :
  Calls Tryz.prog 154 #[.pointer (some ⟨rb,0,none⟩)] w fun e w'=>∃Y:Nat,Y<18446744073709551616/\e= .returned (.int .u64 (Y:Nat))/\w'=(w.setCell ⟨rb,0,none⟩ (.int .u64 (Y:Nat))).drewN 3:=
 (AnyF.xorshift_Next Tryz.laysXn rb 0 X hX w hc hf).mono (by rintro e w' ⟨h1,h2⟩;exact⟨_,xorNextN_lt X hX,h1,h2⟩)
theorem pow2_any (n:Nat)(h0:0<n)(hn:n<4611686018427387904)(w:World) :
  Calls Tryz.prog 153 #[.int .i64 n] w fun e w'=>∃M:Nat,1<=M/\M<=2*n/\e= .returned (.int .u64 (M:Nat))/\w'=w:=
 (AnyF.nextPowerOfTwo Tryz.laysNp n hn w).mono (by
  rintro e w' ⟨h1,h2⟩
  refine⟨_,?_,?_,h1,h2⟩
  ·rw[Nat.one_shiftLeft];exact Nat.two_pow_pos _
  ·rw[Nat.one_shiftLeft];exact two_pow_bitsLen_le h0)
structure Rn (base blk : Nat) (W : World) (sb : Nat) : Prop where
 lt:sb<W.heap.size
 ge:base<=sb
 ne:sb≠blk
 cell:∃X:Nat,X<18446744073709551616/\W.cell? ⟨sb,0,none⟩=some (.int .u64 X)
 fz:W.frozen? ⟨sb,0,none⟩=false
theorem Rn.later {sb:Nat}(h:Rn base blk W sb)(hb:Below W.heap.size W W'):Rn base blk W' sb:=
 ⟨Nat.lt_of_lt_of_le h.lt hb.size,h.ge,h.ne,h.cell.elim fun c hc=>⟨c,hc.1,(hb.cell (p:=⟨sb,0,none⟩) h.lt).trans hc.2⟩,(hb.frozen (p:=⟨sb,0,none⟩) h.lt).trans h.fz⟩
theorem Rn.set {sb:Nat}(h:Rn base blk W sb){X:Nat}(hX:X<18446744073709551616):Rn base blk (W.setCell ⟨sb,0,none⟩ (.int .u64 (X:Nat))) sb:=
 ⟨by simp only[World.size_setCell];exact h.lt,h.ge,h.ne,⟨X,hX,h.cell.elim fun d hd=>World.cell?_setCell_same' _ _ _ (by rw[hd.2];rfl)⟩,by simp only[World.frozen?_setCell];exact h.fz⟩
theorem Rn.other {sb:Nat}(h:Rn base blk W sb)(o:Nat)(v:Value):Rn base blk (W.setCell ⟨blk,o,none⟩ v) sb:=
 ⟨by simp only[World.size_setCell];exact h.lt,h.ge,h.ne,h.cell.elim fun c hc=>⟨c,hc.1,by rw[World.cell?_setCell_other _ _ _ _ (fun e=>h.ne (by cases e;rfl))];exact hc.2⟩,by simp only[World.frozen?_setCell];exact h.fz⟩
theorem Rn.alloc (h:FRow base blk n W f){X:Nat}(hX:X<18446744073709551616)(t:Nat):Rn base blk (W.alloc (Obj.cells #[Value.int IntKind.u64 (X:Nat)] t)) W.heap.size:=
 ⟨O3,by have:=h.ge;have:=h.lt;omega,by have:=h.lt;omega,⟨X,hX,O3⟩,O3⟩
theorem below_drewN (W:World)(k:Nat):Below W.heap.size W (W.drewN k):=⟨rfl,rfl,rfl,Nat.le_refl _,fun b hb=>rfl⟩
theorem Q608.Y602 (h:p:=by
 go_wp2_with fail
 go_roundw
 case rel=>exact⟨i+1,_,by go_num,O0,O0,HW.out,(((((((((HR2.out.other _ _).other _ _).other _ _).other _ _).other _ _).other _ _).other _ _).other _ _).later (Da (Below.refl _ _))),HX3.out⟩
 case measure=>(simp[intOf];try omega)):p:=h
theorem M43 (h:p:=by
 have hen:eo<n:=by have:=HM.out;omega
 have hez:(eo:Int)<(n:Int):=O0
 have HX3:Hid (Mix a b f (sw g i eo)):=U (HX1.out.trans (FQ g (by have:=HM.out;omega) (by have:=HM.out;omega)))
 clear heo
 obtain⟨x,hx⟩:=Rm (g i)
 obtain⟨y,hy⟩:=Rm (g eo)
 obtain⟨xf,xi,xn,xa⟩:=x
 obtain⟨yf,yi,yn,ya⟩:=y
 obtain⟨⟨⟨x0,x1,x2,x3⟩,y0,y1,y2,y3⟩,⟨⟨u0,u1,u2,u3⟩,v0,v1,v2,v3⟩,⟨q0,q1,q2,q3⟩,hsw⟩:=HS2.out.swp (i:=i) (j:=eo) hin hen hx.symm hy.symm
 open Q608 in exact Rf):p:=h
theorem Q577.Y570 (h:p:=by
 obtain⟨L,hL⟩:=Rm (b-a)
 obtain⟨t,ht⟩:=Rm (L/4)
 obtain⟨t2,ht2⟩:=Rm (t*2)
 obtain⟨m,hm⟩:=Rm (a+t2)
 obtain⟨m0,hm0⟩:∃m0,m0+1=m:=⟨m-1,O0⟩
 obtain⟨m1,hm1⟩:=Rm (m+1)
 have hsub:(b:Int)-(a:Int)=(L:Int):=O0
 have hdiv:(L:Int)/4=(t:Int):=O0
 have wt2:IntKind.i64.wrap ((t:Int)*2)=(t2:Int):=by rw[IntKind.wrap_i64]<;>omega
 have wm:IntKind.i64.wrap ((a:Int)+(t2:Int))=(m:Int):=by rw[IntKind.wrap_i64]<;>omega
 have wm0:IntKind.i64.wrap ((m:Int)-1)=(m0:Int):=by rw[IntKind.wrap_i64]<;>omega
 have wm1:IntKind.i64.wrap ((m:Int)+1)=(m1:Int):=by rw[IntKind.wrap_i64]<;>omega
 have hL8:8<=L:=O0
 have hL8z:(8:Int)<=(L:Int):=O0
 have HM:Hid (a<=m0/\m1<b/\L=b-a/\m0+2=m1):=U O0
 have hLn:L<4611686018427387904:=O0
 have hLn0:0<L:=O0
 have hNP:=fun w=>pow2_any L hLn0 hLn w
 have HNP:=U hNP
 clear hL ht ht2 hm hm0 hm1 hNP
 go_enter Tryz.func123,Tryz.ntmps123
 go_upto_region 3 with fail
 obtain⟨sb,hsb⟩:=Rm (W.heap.size)
 have HS0:=U (HST.out.later ((Below.refl _ _).alloc (Nat.le_refl _) (Obj.cells #[Value.int IntKind.u64 (L:Nat)] 232)))
 have HR0:=U (Rn.alloc HST.out.row (X:=L) O0 232)
 rw[<-hsb] at HR0 ⊢
 generalize hwa:W.alloc (Obj.cells #[Value.int IntKind.u64 (L:Nat)] 232)=wa at HS0 HR0 ⊢
 clear HST hsb hwa
 go_wp2_with fail
 refine(HNP.out _).mono ?_
 rintro e w1 ⟨M,hM1,hM2,rfl,rfl⟩
 obtain⟨M1,hMM⟩:∃M1,M1+1=M:=⟨M-1,O0⟩
 have wM:IntKind.u64.wrap ((M:Int)-1)=(M1:Int):=by rw[IntKind.wrap_u64]<;>omega
 have HMM:Hid (M1<2*L):=U O0
 clear hMM hM1 hM2 HNP
 go_wp2_with fail
 go_loopw [11] (fun v wr=>∃(i:Nat) (g:Nat->RF),v= .int .i64 i/\m0<=i/\i<=m1+1/\St base blk n w0 key Ok wr g/\Rn base blk wr sb/\Mix a b f g) (fun v _=>m1+1-(intOf v).toNat)
 case atStart=>exact⟨m0,f,by go_num,Nat.le_refl _,by have:=HM.out;omega,HS0.out,HR0.out,Mix.refl _ _ _⟩
 case round=>
  obtain⟨i,g,rfl,hi0,hi1,hst,hrn,hmx⟩:=hrel
  have HS1:=U hst;have HR1:=U hrn;have HX1:=U hmx
  clear hst hrn hmx HS0 HR0
  by_cases him:i<=m1
  ·have himz : (i : Int) <= (m1 : Int) := O0
   have hin:i<n:=by have:=HM.out;omega
   have hiz:(i:Int)<(n:Int):=O0
   obtain⟨X,hX,hc⟩:=HR1.out.cell
   have hN:=next_any sb X hX wr hc HR1.out.fz
   have HN:=U hN
   clear hN hc hX
   go_wp2_with fail
   refine HN.out.mono ?_
   rintro e w2 ⟨Y,hY,rfl,rfl⟩
   have HS2:=U ((HS1.out.set HR1.out.ge HR1.out.ne 0 (.int .u64 (Y:Nat))).later (below_drewN _ 3))
   have HR2:=U ((HR1.out.set hY).later (below_drewN _ 3))
   generalize hwn:(wr.setCell ⟨sb,0,none⟩ (.int .u64 (Y:Nat))).drewN 3=wn at HS2 HR2 ⊢
   clear hwn HN HS1 HR1
   obtain⟨O,hO⟩:=Rm (Y&&& M1:Nat)
   have lO:O<=M1:=by rw[hO];exact Nat.and_le_right
   have eAnd:bits .and .u64 (Y:Int) (M1:Int)=(O:Int):=by
    rw[bits_and_u64_nat _ _ hY (by have:=HMM.out;omega),hO]
   have HO:Hid (O<2*L):=U (by have:=HMM.out;omega)
   have hO63:(O:Int)<9223372036854775808:=by have:=HO.out;omega
   clear hO lO hY
   by_cases hOL:L<=O
   ·have hOLz : (L : Int) <= (O : Int) := O0
    obtain⟨P,hP⟩:=Rm (O-L)
    have wP:IntKind.i64.wrap ((O:Int)-(L:Int))=(P:Int):=by rw[IntKind.wrap_i64]<;>omega
    have hPL:P<L:=by have:=HO.out;omega
    clear hP
    obtain⟨eo,heo⟩:=Rm (a+P)
    have weo:IntKind.i64.wrap ((a:Int)+(P:Int))=(eo:Int):=by rw[IntKind.wrap_i64]<;>(have:=HM.out;omega)
    exact M43
   ·have hOLz : ¬ (L : Int) <= (O : Int) := O0
    have hPL:O<L:=O0
    obtain⟨eo,heo⟩:=Rm (a+O)
    have weo:IntKind.i64.wrap ((a:Int)+(O:Int))=(eo:Int):=by rw[IntKind.wrap_i64]<;>(have:=HM.out;omega)
    exact M43
  ·have himz : ¬ (i : Int) <= (m1 : Int) := O0
   go_wp2_with fail
   refine bodyPost_end (results_none rfl _ _ _) rfl ?_
   exact⟨⟨_,rfl⟩,g,HS1.out,HX1.out⟩):p:=h
theorem NT (hE : Env base blk n w0 mb key Ok) (a b : Nat) (hab : a + 12 < b) (hb : b <= n) (cap : Nat) (hcap : n <= cap /\ cap <= maxLen) (h : St base blk n w0 key Ok W f) : 
  Calls Tryz.prog 123 #[.slice (some ⟨blk,0,none⟩) n cap,.int .i64 a,.int .i64 b,.func (.func 46) #[.map (some mb)] #[]] W fun e w'=>(∃v,e= .returned v)/\∃g,St base blk n w0 key Ok w' g/\Mix a b f g:=by
 open Q577 in exact KM
end Ts
end Go.Proofs.YtaahfiopdoinkaaGreat
namespace Go.Proofs.YtaahfiopdoinkaaGreat
open Go.RowKit Go.Sort
namespace Ts
open Ta (RF rfL PMap)
open Lv (DZ)
open Vt (Da)
variable {base blk n : Nat} {W W' w0 : World} {f g : Nat -> RF} {key : RF -> Nat} {Ok : RF -> Prop} {mb : Nat}
def Done (key:RF->Nat)(a0 b0 a b:Nat)(g:Nat->RF):Prop:=∀p q,a0<=p->p<q->q<b0->¬(a<=p/\q<b)->key (g p)<key (g q)
theorem Done.mix {a0 b0 a b:Nat}{g':Nat->RF}(h:Done key a0 b0 a b g)(m:Mix a b g g')(ha:a0<=a)(hb:b<=b0):Done key a0 b0 a b g':=fun p q h1 h2 h3 h4=>by
 by_cases P:a<=p/\p<b
 ·obtain ⟨l, l1, l2, l3⟩ := m.in_ P.1 P.2
  rw[l3,m.out (k:=q) O0]
  exact h l q O0 O0 h3 O0
 ·rw [m.out (k := p) O0]
  by_cases Q:a<=q/\q<b
  ·obtain ⟨l, l1, l2, l3⟩ := m.in_ Q.1 Q.2
   rw[l3]
   exact h p l h1 O0 O0 O0
  ·rw [m.out (k := q) O0]
   exact h p q h1 h2 h3 h4
theorem Done.finish {a0 b0 a b:Nat}(h:Done key a0 b0 a b g)(s:Srt key a b g):Srt key a0 b0 g:=fun p q h1 h2 h3=>by
 by_cases c:a<=p/\q<b
 ·exact s p q c.1 h2 c.2
 ·exact h p q h1 h2 h3 c
theorem Done.left {a0 b0 a b mid:Nat}{g':Nat->RF}(h:Done key a0 b0 a b g)(h1:a<=mid)(h2:mid<b)(ha:a0<=a)(hb:b<=b0)(lo:∀k,a<=k->k<mid->key (g k)<key (g mid))(hi:∀k,mid<k->k<b->key (g mid)<key (g k))(m:Mix a mid g g')(s:Srt key a mid g'):Done key a0 b0 (mid+1) b g':=by
 have h':=h.mix (m.mono (Nat.le_refl _) (Nat.le_of_lt h2)) ha hb
 have lo':∀k,a<=k->k<mid->key (g' k)<key (g' mid):=fun k k1 k2=>by
  obtain⟨l,l1,l2,l3⟩:=m.in_ k1 k2
  rw[l3,m.out (k:=mid) O0];exact lo l l1 l2
 have hi':∀k,mid<k->k<b->key (g' mid)<key (g' k):=fun k k1 k2=>by
  rw[m.out (k:=mid) O0,m.out (k:=k) O0];exact hi k k1 k2
 intro p q p1 p2 p3 p4
 by_cases c:a<=p/\q<b
 ·rcases Nat.lt_trichotomy q mid with z | z | z
  ·exact s p q c.1 p2 z
  ·rw[z];exact lo' p c.1 O0
  ·by_cases e : p = mid
   ·rw[e];exact hi' q z c.2
   ·exact Nat.lt_trans (lo' p c.1 O0) (hi' q z c.2)
 ·exact h' p q p1 p2 p3 c
theorem Done.right {a0 b0 a b mid:Nat}{g':Nat->RF}(h:Done key a0 b0 a b g)(h1:a<=mid)(h2:mid<b)(ha:a0<=a)(hb:b<=b0)(lo:∀k,a<=k->k<mid->key (g k)<key (g mid))(hi:∀k,mid<k->k<b->key (g mid)<key (g k))(m:Mix (mid+1) b g g')(s:Srt key (mid+1) b g'):Done key a0 b0 a mid g':=by
 have h':=h.mix (m.mono O0 (Nat.le_refl _)) ha hb
 have lo':∀k,a<=k->k<mid->key (g' k)<key (g' mid):=fun k k1 k2=>by
  rw[m.out (k:=mid) O0,m.out (k:=k) O0];exact lo k k1 k2
 have hi':∀k,mid<k->k<b->key (g' mid)<key (g' k):=fun k k1 k2=>by
  obtain⟨l,l1,l2,l3⟩:=m.in_ (show mid+1<=k by omega) k2
  rw[l3,m.out (k:=mid) O0];exact hi l O0 l2
 intro p q p1 p2 p3 p4
 by_cases c:a<=p/\q<b
 ·by_cases z : q = mid
  ·rw[z];exact lo' p c.1 O0
  ·rcases Nat.lt_trichotomy p mid with y | y | y
   ·exact Nat.lt_trans (lo' p c.1 y) (hi' q O0 c.2)
   ·rw[y];exact hi' q O0 c.2
   ·exact s p q O0 p2 c.2
 ·exact h' p q p1 p2 p3 c
def Low (key:RF->Nat)(a b:Nat)(f:Nat->RF):Prop:=∀k l,k<a->a<=l->l<b->key (f k)<key (f l)
theorem Low.window {a0 b0 a b:Nat}(h:Low key a0 b0 f)(m:Mix a0 b0 f g)(d:Done key a0 b0 a b g)(ha:a0<=a)(hb:b<=b0):Low key a b g:=fun k l h1 h2 h3=>by
 by_cases c:k<a0
 ·exact m.low h c O0 O0
 ·exact d k l O0 O0 O0 O0
theorem Low.mix {a b:Nat}(h:Low key a b f)(m:Mix a b f g):Low key a b g:=fun k l h1 h2 h3=>m.low h h1 h2 h3
theorem Low.right {a b mid:Nat}(h:Low key a b g)(h1:a<=mid)(lo:∀k,a<=k->k<mid->key (g k)<key (g mid))(hi:∀k,mid<k->k<b->key (g mid)<key (g k)):Low key (mid+1) b g:=fun k l k1 k2 k3=>by
 rcases Nat.lt_trichotomy k mid with y|y|y
 ·by_cases c : k < a
  ·exact h k l c O0 k3
  ·exact Nat.lt_trans (lo k O0 y) (hi l O0 k3)
 ·rw[y];exact hi l O0 k3
 ·omega
theorem M75 (h:p:=by
 rintro e w2 ⟨⟨v,rfl⟩,g2,hst,hmx,hsr⟩
 have HS2:=U hst
 have HM2:Hid (Mix a0 b0 f g2):=U (HM.out.trans (hmx.mono ha0 hb0))
 have HR2:Hid (Srt key a0 b0 g2):=U ((HD.out.mix hmx ha0 hb0).finish hsr)
 clear hst hmx hsr
 go_wp2_with fail
 try simp only[Exit.inBlock,Exit.then]
 refine bodyPost_ret (results_none rfl _ _ _) rfl ?_
 exact⟨⟨_,rfl⟩,g2,HS2.out,HM2.out,HR2.out⟩):p:=h
theorem M173 (h:p:=by
 go_wp2_with fail
 go_meet
 case rel=>exact⟨⟨_,rfl⟩,HS4.out⟩):p:=h
theorem Q465.Y464 (h:p:=by
 have hcv0:cv<0:=HCV.out.2 HK.out
 go_wp2_with fail
 go_quiet_grown (first | (go_at_call 46;refine Calls.grown_of (hcg _ _)))
 have HQ:=U (HS7.out.later (DF wc nq osq))
 generalize hwq:grow (wc.drewN (GrownBy.mk nq osq).n) (GrownBy.mk nq osq).os=wq
 rw[show grow (wc.drewN nq) osq=wq from hwq] at HQ
 clear hwq hcg x0 x1 x2 x3 y0 y1 y2 y3
 go_wp2_with fail
 go_meet
 case rel=>exact⟨by simp[hcv0],HQ.out⟩):p:=h
theorem pdq_any (hE:Env base blk n w0 mb key Ok)(cap:Nat)(hcap:n<=cap/\cap<=maxLen):∀(K:Nat) (W:World) (f:Nat->RF) (a0 b0 lim:Nat),b0-a0<K->a0<=b0->b0<=n->lim<=1000->Low key a0 b0 f->St base blk n w0 key Ok W f->
  Calls Tryz.prog 91 #[.slice (some ⟨blk,0,none⟩) n cap,.int .i64 a0,.int .i64 b0,.int .i64 lim,.func (.func 46) #[.map (some mb)] #[]] W fun e w'=>(∃v,e= .returned v)/\∃g,St base blk n w0 key Ok w' g/\Mix a0 b0 f g/\Srt key a0 b0 g:=by
 intro K
 induction K with
 | zero=>intro W f a0 b0 lim h;omega
 | succ K ih=>
 intro W f a0 b0 lim0 hK hab hb hlim hlow h
 have HIH:=U ih
 have HE:=U hE;have HST:=U h;have HLOW:=U hlow
 have hn:=hE.len
 obtain⟨hc1,hc2⟩:=hcap
 simp only[maxLen] at hc2
 have mx:=mixed
 have CI:Hid (∀(W:World) (f:Nat->RF) (a b:Nat),a<=b->b<=n->St base blk n w0 key Ok W f->Calls Tryz.prog 121 #[.slice (some ⟨blk,0,none⟩) n cap,.int .i64 a,.int .i64 b,.func (.func 46) #[.map (some mb)] #[]] W fun e w'=>(∃v,e= .returned v)/\∃g,St base blk n w0 key Ok w' g/\Mix a b f g/\Srt key a b g):=U fun W f a b h1 h2 h3=>ins_any HE.out a b O0 h2 cap ⟨hc1,by simp only[maxLen];exact hc2⟩ h3
 have CH:Hid (∀(W:World) (f:Nat->RF) (a b:Nat),a+12<b->b<=n->St base blk n w0 key Ok W f->Calls Tryz.prog 122 #[.slice (some ⟨blk,0,none⟩) n cap,.int .i64 a,.int .i64 b,.func (.func 46) #[.map (some mb)] #[]] W fun e w'=>(∃v,e= .returned v)/\∃g,St base blk n w0 key Ok w' g/\Mix a b f g/\Srt key a b g):=U fun W f a b h1 h2 h3=>heap_any HE.out a b O0 h2 cap ⟨hc1,by simp only[maxLen];exact hc2⟩ h3
 have CB:Hid (∀(W:World) (f:Nat->RF) (a b:Nat),a+12<b->b<=n->St base blk n w0 key Ok W f->Calls Tryz.prog 123 #[.slice (some ⟨blk,0,none⟩) n cap,.int .i64 a,.int .i64 b,.func (.func 46) #[.map (some mb)] #[]] W fun e w'=>(∃v,e= .returned v)/\∃g,St base blk n w0 key Ok w' g/\Mix a b f g):=U fun W f a b h1 h2 h3=>NT HE.out a b h1 h2 cap ⟨hc1,by simp only[maxLen];exact hc2⟩ h3
 have CP:Hid (∀(W:World) (f:Nat->RF) (a b:Nat),a+12<b->b<=n->St base blk n w0 key Ok W f->Calls Tryz.prog 124 #[.slice (some ⟨blk,0,none⟩) n cap,.int .i64 a,.int .i64 b,.func (.func 46) #[.map (some mb)] #[]] W fun e w'=>∃p hint:Nat,e= .returned (.tuple #[.int .i64 p,.int .i64 hint])/\(a<=p/\p<b)/\St base blk n w0 key Ok w' f):=U fun W f a b h1 h2 h3=>Ks HE.out a b h1 h2 cap ⟨hc1,by simp only[maxLen];exact hc2⟩ h3
 have CR:Hid (∀(W:World) (f:Nat->RF) (a b:Nat),a+12<b->b<=n->St base blk n w0 key Ok W f->Calls Tryz.prog 125 #[.slice (some ⟨blk,0,none⟩) n cap,.int .i64 a,.int .i64 b,.func (.func 46) #[.map (some mb)] #[]] W fun e w'=>(∃v,e= .returned v)/\∃g,St base blk n w0 key Ok w' g/\Mix a b f g):=U fun W f a b h1 h2 h3=>YA HE.out a b O0 h2 cap ⟨hc1,by simp only[maxLen];exact hc2⟩ h3
 have CS:Hid (∀(W:World) (f:Nat->RF) (a b:Nat),a+12<b->b<=n->St base blk n w0 key Ok W f->Low key a b f->Calls Tryz.prog 126 #[.slice (some ⟨blk,0,none⟩) n cap,.int .i64 a,.int .i64 b,.func (.func 46) #[.map (some mb)] #[]] W fun e w'=>∃r:Bool,e= .returned (.bool r)/\∃g,St base blk n w0 key Ok w' g/\Mix a b f g/\(r=true->Srt key a b g)):=U fun W f a b h1 h2 h3 h4=>YF HE.out a b O0 h2 h4 cap ⟨hc1,by simp only[maxLen];exact hc2⟩ h3
 have CT:Hid (∀(W:World) (f:Nat->RF) (a b p:Nat),a+12<b->b<=n->St base blk n w0 key Ok W f->a<=p->p<b->Calls Tryz.prog 128 #[.slice (some ⟨blk,0,none⟩) n cap,.int .i64 a,.int .i64 b,.int .i64 p,.func (.func 46) #[.map (some mb)] #[]] W fun e w'=>∃(mid:Nat) (ap:Bool) (g:Nat->RF),e= .returned (.tuple #[.int .i64 mid,.bool ap])/\a<=mid/\mid<b/\St base blk n w0 key Ok w' g/\Mix a b f g/\(∀k,a<=k->k<mid->key (g k)<key (g mid))/\∀k,mid<k->k<b->key (g mid)<key (g k)):=U fun W f a b p h1 h2 h3 h4 h5=>part_any HE.out a b p h4 h5 h2 cap ⟨hc1,by simp only[maxLen];exact hc2⟩ h3
 clear h hE ih hlow
 go_enter Tryz.func91,Tryz.ntmps91
 go_wp2_with fail
 go_loopw [1,2,3,10,11] (fun v1 v2 v3 v4 v5 wr=>∃(a b lim:Nat) (wb wp:Bool) (g:Nat->RF),v1= .int .i64 a/\v2= .int .i64 b/\v3= .int .i64 lim/\v4= .bool wb/\v5= .bool wp/\a0<=a/\a<=b/\b<=b0/\lim<=1000/\St base blk n w0 key Ok wr g/\Mix a0 b0 f g/\Done key a0 b0 a b g) (fun v1 v2 _ _ _ _=>(intOf v2).toNat-(intOf v1).toNat)
 case atStart=>exact⟨a0,b0,lim0,true,true,f,rfl,rfl,rfl,rfl,rfl,Nat.le_refl _,hab,Nat.le_refl _,hlim,HST.out,Mix.refl _ _ _,fun p q h1 h2 h3 h4=>absurd ⟨h1,h3⟩ h4⟩
 case round=>
  obtain⟨a,b,lim,wb,wp,g,rfl,rfl,rfl,rfl,rfl,ha0,hab2,hb0,hlim2,hst,hmx,hdn⟩:=hrel
  have HS:=U hst;have HM:=U hmx;have HD:=U hdn
  clear hst hmx hdn HST hlim hab
  have HIN:Hid (b<=n/\b-a<=b0-a0):=U O0
  obtain⟨L,hL⟩:=Rm (b-a)
  have hsub:(b:Int)-(a:Int)=(L:Int):=O0
  have HL:=U hL
  clear hL
  by_cases h12:L<=12
  ·have h12z : (L : Int) <= 12 := O0
   go_wp2_with fail
   refine(CI.out _ _ a b hab2 HIN.out.1 HS.out).mono ?_
   exact M75
  ·have h12z : ¬ (L : Int) <= 12 := O0
   have hwide:a+12<b:=by have:=HL.out;omega
   have HWD:=U hwide
   clear hwide
   by_cases hl0:lim=0
   ·subst hl0
    go_wp2_with fail
    refine(CH.out _ _ a b HWD.out HIN.out.1 HS.out).mono ?_
    exact M75
   ·obtain ⟨limp, hlp⟩ : ∃ limp, limp + 1 = lim := ⟨lim - 1, O0⟩
    have hwl:IntKind.i64.wrap ((lim:Int)-1)=(limp:Int):=by rw[IntKind.wrap_i64]<;>omega
    have hl0z:¬(lim:Int)=0:=O0
    have hlpn:limp<=1000:=O0
    clear hlp
    go_upto_if 39 with fail
    go_cut [3] from 32 to 46 (fun z wx=>∃(lim2:Nat) (g2:Nat->RF),z= .int .i64 lim2/\lim2<=1000/\St base blk n w0 key Ok wx g2/\Mix a0 b0 f g2/\Done key a0 b0 a b g2)
    case first =>
     cases wb with
     | true=>
      go_wp2_with fail
      go_meet
      case rel=>exact⟨lim,g,rfl,hlim2,HS.out,HM.out,HD.out⟩
     | false=>
      go_wp2_with fail
      refine(CB.out _ _ a b HWD.out HIN.out.1 HS.out).mono ?_
      rintro e w2 ⟨⟨v,rfl⟩,g2,hst,hmx⟩
      have HS2:=U hst
      have HM2:Hid (Mix a0 b0 f g2):=U (HM.out.trans (hmx.mono ha0 hb0))
      have HD2:=U (HD.out.mix hmx ha0 hb0)
      clear hst hmx
      go_wp2_with fail
      go_meet
      case rel=>exact⟨limp,g2,by go_num,hlpn,HS2.out,HM2.out,HD2.out⟩
    case rest=>
     obtain⟨lim2,g2,rfl,hlim3,hst,hmx,hdn⟩:=hcut
     have HS2:=U hst;have HM2:=U hmx;have HD2:=U hdn
     clear hst hmx hdn HS HM HD hwl hl0z hl0 hlpn hlim2
     go_wp2_with fail
     refine(CP.out _ _ a b HWD.out HIN.out.1 HS2.out).mono ?_
     rintro e w3 ⟨p,hint,rfl,hp,hst⟩
     have HP:=U hp;have HS3:=U hst
     clear hp hst HS2
     go_upto_if 56 with fail
     go_cut [13,14] from 56 to 67 (fun z y wx=>∃(p2 hint2:Nat) (g3:Nat->RF),z= .int .i64 p2/\y= .int .i64 hint2/\(a<=p2/\p2<b)/\St base blk n w0 key Ok wx g3/\Mix a0 b0 f g3/\Done key a0 b0 a b g3)
     case first =>
      by_cases hh:hint=2
      ·subst hh
       go_wp2_with fail
       refine(CR.out _ _ a b HWD.out HIN.out.1 HS3.out).mono ?_
       rintro e w4 ⟨⟨v,rfl⟩,g3,hst,hmx⟩
       have HS4:=U hst
       have HM4:Hid (Mix a0 b0 f g3):=U (HM2.out.trans (hmx.mono ha0 hb0))
       have HD4:=U (HD2.out.mix hmx ha0 hb0)
       clear hst hmx
       obtain⟨bp,hbp⟩:∃bp,bp+1=b:=⟨b-1,by have:=HWD.out;omega⟩
       obtain⟨pa,hpa⟩:=Rm (p-a)
       obtain⟨p3,hp3⟩:=Rm (bp-pa)
       have hbn:b<=n:=HIN.out.1
       have wb1:IntKind.i64.wrap ((b:Int)-1)=(bp:Int):=by rw[IntKind.wrap_i64]<;>omega
       have wb2:IntKind.i64.wrap ((p:Int)-(a:Int))=(pa:Int):=by have:=HP.out;rw[IntKind.wrap_i64]<;>omega
       have wb3:IntKind.i64.wrap ((bp:Int)-(pa:Int))=(p3:Int):=by have:=HP.out;rw[IntKind.wrap_i64]<;>omega
       have HP3:Hid (a<=p3/\p3<b):=U (by have:=HP.out;omega)
       clear hbp hpa hp3 hbn
       go_wp2_with fail
       go_meet
       case rel=>exact⟨p3,1,g3,by go_num,by go_num,HP3.out,HS4.out,HM4.out,HD4.out⟩
      ·have hhz : ¬ (hint : Int) = 2 := O0
       go_wp2_with fail
       go_meet
       case rel=>exact⟨p,hint,g2,rfl,rfl,HP.out,HS3.out,HM2.out,HD2.out⟩
     case rest=>
      obtain⟨p2,hint2,g3,rfl,rfl,hp,hst,hmx,hdn⟩:=hcut
      have HP2:=U hp;have HS4:=U hst;have HM4:=U hmx;have HD4:=U hdn
      clear hp hst hmx hdn HP HS3 HM2 HD2
      go_upto_region 15 with fail
      go_cut [75] from 68 to 75 (fun z wx=>(∃q:Bool,z= .bool q)/\St base blk n w0 key Ok wx g3)
      case first =>
       cases wb with
       | false=>
        exact M173
       | true=>
        cases wp with
        | false=>
         exact M173
        | true=>
         exact M173
      case rest=>
       obtain⟨⟨q,rfl⟩,hst⟩:=hcut
       have HS5:=U hst
       clear hst HS4
       go_upto_if 75 with fail
       go_cut [80] from 75 to 80 (fun z wx=>∃g4:Nat->RF,St base blk n w0 key Ok wx g4/\Mix a0 b0 f g4/\Done key a0 b0 a b g4)
       case first =>
        cases q with
        | false=>
         go_wp2_with fail
         go_meet
         case rel=>exact⟨_,HS5.out,HM4.out,HD4.out⟩
        | true=>
         go_wp2_with fail
         refine(CS.out _ _ a b HWD.out HIN.out.1 HS5.out (HLOW.out.window HM4.out HD4.out ha0 hb0)).mono ?_
         rintro e w5 ⟨r,rfl,g4,hst,hmx,hsr⟩
         have HS6:=U hst
         have HM6:Hid (Mix a0 b0 f g4):=U (HM4.out.trans (hmx.mono ha0 hb0))
         have HD6:=U (HD4.out.mix hmx ha0 hb0)
         have HR6:Hid (r=true->Srt key a0 b0 g4):=U fun e=>HD6.out.finish (hsr e)
         clear hst hmx hsr
         cases r with
         | true=>
          go_wp2_with fail
          try simp only[Exit.inBlock,Exit.then]
          refine bodyPost_ret (results_none rfl _ _ _) rfl ?_
          exact⟨⟨_,rfl⟩,g4,HS6.out,HM6.out,HR6.out (by first | rfl|trivial)⟩
         | false=>
          go_wp2_with fail
          go_meet
          case rel=>exact⟨_,HS6.out,HM6.out,HD6.out⟩
       case rest=>
        obtain⟨g4,hst,hmx,hdn⟩:=hcut
        have HS7:=U hst;have HM7:=U hmx;have HD7:=U hdn
        have HLW:Hid (Low key a b g4):=U (HLOW.out.window hmx hdn ha0 hb0)
        clear hst hmx hdn HS5 HM4 HD4
        rename World=>wc
        go_upto_region 17 with fail
        go_cut [97] from 81 to 97 (fun z wx=>z= .bool false/\St base blk n w0 key Ok wx g4)
        case first =>
         by_cases h0a:0<a
         ·obtain ⟨ap, hap⟩ : ∃ ap, ap + 1 = a := ⟨a - 1, O0⟩
          have hbn:b<=n:=HIN.out.1
          have wap:IntKind.i64.wrap ((a:Int)-1)=(ap:Int):=by rw[IntKind.wrap_i64]<;>omega
          have hapn:ap<n:=O0
          have hapz:(ap:Int)<(n:Int):=O0
          have hpn:p2<n:=by have:=HP2.out;omega
          have hpz:(p2:Int)<(n:Int):=O0
          have h0z:(0:Int)<(a:Int):=O0
          have hkl:key (g4 ap)<key (g4 p2):=HLW.out ap p2 O0 HP2.out.1 HP2.out.2
          have HK:=U hkl
          clear hap hbn hkl
          obtain⟨xf,xi,xn,xa,yf,yi,yn,ya,cv,hx,hy,hcv,hcl,hcg⟩:=HS7.out.cmp HE.out (i:=ap) (j:=p2) hapn hpn
          open Q465 in exact Vw
         ·have h0z : ¬ (0 : Int) < (a : Int) := O0
          go_wp2_with fail
          go_region
          have HQ:=U (HS7.out.later (Da (Below.refl _ _)))
          go_wp2_with fail
          go_meet
          case rel=>exact⟨by first | rfl|simp,HQ.out⟩
        case rest=>
         obtain⟨rfl,hst⟩:=hcut
         have HS8:=U hst
         clear hst HS7
         go_wp2_with fail
         refine(CT.out _ _ a b p2 HWD.out HIN.out.1 HS8.out HP2.out.1 HP2.out.2).mono ?_
         rintro e w6 ⟨mid,ap,g6,rfl,hm1,hm2,hst,hmx,hlo,hhi⟩
         have HS9:=U hst
         have HM9:Hid (Mix a0 b0 f g6):=U (HM7.out.trans (hmx.mono ha0 hb0))
         have HD9:=U (HD7.out.mix hmx ha0 hb0)
         have HL9:=U (HLW.out.mix hmx)
         have HLO:=U hlo;have HHI:=U hhi
         clear hst hmx hlo hhi HS8 HM7 HD7 HLW HP2
         obtain⟨l1,hl1⟩:=Rm (mid-a)
         obtain⟨r1,hr1⟩:=Rm (b-mid)
         obtain⟨t8,ht8⟩:=Rm (L/8)
         have e1:(mid:Int)-(a:Int)=(l1:Int):=O0
         have e2:(b:Int)-(mid:Int)=(r1:Int):=O0
         have e3:(L:Int)/8=(t8:Int):=O0
         clear hl1 hr1 ht8
         have hmn:mid<n:=by have:=HIN.out;omega
         have hwm:IntKind.i64.wrap ((mid:Int)+1)=(mid:Int)+1:=by rw[IntKind.wrap_i64]<;>omega
         have HIN2:Hid (mid-a<K/\b-(mid+1)<K):=U (by have:=HIN.out;omega)
         by_cases hlr:l1<r1
         ·have hlrz : (l1 : Int) < (r1 : Int) := O0
          go_wp2_with fail
          refine(HIH.out _ _ a mid lim2 HIN2.out.1 hm1 O0 hlim3 (fun k l k1 k2 k3=>HL9.out k l k1 k2 O0) HS9.out).mono ?_
          rintro e w7 ⟨⟨v,rfl⟩,g7,hst,hmx,hsr⟩
          have HSa:=U hst
          have HMa:Hid (Mix a0 b0 f g7):=U (HM9.out.trans (hmx.mono ha0 O0))
          have HDa:=U (HD9.out.left hm1 hm2 ha0 hb0 HLO.out HHI.out hmx hsr)
          clear hst hmx hsr
          go_wp2_with fail
          go_roundw
          case rel=>exact⟨mid+1,b,lim2,_,ap,g7,by go_num,rfl,rfl,rfl,rfl,O0,O0,hb0,hlim3,HSa.out,HMa.out,HDa.out⟩
          case measure=>(simp[intOf];try omega)
         ·have hlrz : ¬ (l1 : Int) < (r1 : Int) := O0
          go_wp2_with fail
          refine(HIH.out _ _ (mid+1) b lim2 HIN2.out.2 O0 HIN.out.1 hlim3 (HL9.out.right hm1 HLO.out HHI.out) HS9.out).mono ?_
          rintro e w7 ⟨⟨v,rfl⟩,g7,hst,hmx,hsr⟩
          have HSa:=U hst
          have HMa:Hid (Mix a0 b0 f g7):=U (HM9.out.trans (hmx.mono O0 hb0))
          have HDa:=U (HD9.out.right hm1 hm2 ha0 hb0 HLO.out HHI.out hmx hsr)
          clear hst hmx hsr
          go_wp2_with fail
          go_roundw
          case rel=>exact⟨a,mid,lim2,_,ap,g7,rfl,rfl,rfl,rfl,rfl,ha0,hm1,O0,hlim3,HSa.out,HMa.out,HDa.out⟩
          case measure=>(simp[intOf];try omega)
end Ts
end Go.Proofs.YtaahfiopdoinkaaGreat
namespace Go.Proofs.YtaahfiopdoinkaaGreat
open Go.Shelf Go.Lib
open Go.RowKit Go.Sort
def Tryz.laysBl_ren : Go.Shelf.Ren:=⟨fun|15=>92|28=>129|29=>130|n=>n,fun|39=>173|3=>3|53=>212|55=>23|4=>4|5=>5|9=>9|n=>n,fun|n=>n⟩
theorem Tryz.laysBl : Go.Proofs.SlLaysF0.n15 Tryz.prog Tryz.laysBl_ren := {
  mixed:=O2
  f15:=Tryz.func92.trans (congrArg some O2)
  f28:=Tryz.func129.trans (congrArg some O2)
  f29:=Tryz.func130.trans (congrArg some O2)
  t3:=Tryz.underlying3
  a3:=Tryz.isAgg3
  z3:=Tryz.sizeOf3
  v3:=Tryz.zeroValue3
  t4:=Tryz.underlying4
  a4:=Tryz.isAgg4
  z4:=Tryz.sizeOf4
  v4:=Tryz.zeroValue4
  t5:=Tryz.underlying5
  a5:=Tryz.isAgg5
  z5:=Tryz.sizeOf5
  v5:=Tryz.zeroValue5
  t9:=Tryz.underlying9
  a9:=Tryz.isAgg9
  z9:=Tryz.sizeOf9
  v9:=Tryz.zeroValue9
  t39:=Tryz.underlying173
  a39:=Tryz.isAgg173
  z39:=Tryz.sizeOf173
  v39:=Tryz.zeroValue173
  t53:=Tryz.underlying212
  a53:=Tryz.isAgg212
  z53:=Tryz.sizeOf212
  v53:=Tryz.zeroValue212
  t55:=Tryz.underlying23
  a55:=Tryz.isAgg23
  z55:=Tryz.sizeOf23
  v55:=Tryz.zeroValue23}
namespace Ts
open Ta (RF rfL PMap)
open Lv (DZ)
open Vt (Da)
variable {base blk n : Nat} {W W' w0 : World} {f g : Nat -> RF} {key : RF -> Nat} {Ok : RF -> Prop} {mb : Nat}
theorem len_any (n:Nat)(hn:n<4611686018427387904)(w:World) :
  Calls Tryz.prog 92 #[.int .u64 n] w fun e w'=>∃k:Nat,k<=62/\e= .returned (.int .i64 (k:Nat))/\w'=w:=by
 have h:=Any.bits_Len (SlLaysF0.n15.bits Tryz.laysBl) (n:Int) w O0 O0
 rw[Int.toNat_natCast,bitLen_eq _ O0] at h
 exact h.mono (by rintro e w' ⟨h1,h2⟩;exact⟨_,(bitsLen_le_iff n 62).2 O0,h1,h2⟩)
theorem LU (hE:Env base blk n w0 mb key Ok)(cap:Nat)(hcap:n<=cap/\cap<=maxLen)(h:St base blk n w0 key Ok W f) :
  Calls Tryz.prog 60 #[.slice (some ⟨blk,0,none⟩) n cap,.func (.func 46) #[.map (some mb)] #[]] W fun e w'=>(∃v,e= .returned v)/\∃g,St base blk n w0 key Ok w' g/\Mix 0 n f g/\Srt key 0 n g:=by
 have hn:=hE.len
 have HL:=U (fun w=>len_any n O0 w)
 have HP:Hid (∀W k,k<=62->St base blk n w0 key Ok W f->Calls Tryz.prog 91 #[.slice (some ⟨blk,0,none⟩) n cap,.int .i64 0,.int .i64 n,.int .i64 (k:Nat),.func (.func 46) #[.map (some mb)] #[]] W fun e w'=>(∃v,e= .returned v)/\∃g,St base blk n w0 key Ok w' g/\Mix 0 n f g/\Srt key 0 n g):=U fun W k hk h=>
  pdq_any hE cap hcap (n+1) W f 0 n k O0 (Nat.zero_le _) (Nat.le_refl _) O0 (fun k l h1=>O0) h
 have HST:=U h
 have hnz:(0:Int)<=(n:Int):=O0
 clear h hE hcap
 go_enter Tryz.func60,Tryz.ntmps60
 go_wp2_with fail
 refine(HL.out _).mono ?_
 rintro e w1 ⟨k,hk,rfl,rfl⟩
 have HK:=U hk
 clear hk
 go_wp2_with fail
 refine(HP.out _ k HK.out HST.out).mono ?_
 rintro e w2 ⟨⟨v,rfl⟩,g,hst,hmx,hsr⟩
 have HS:=U hst;have HM:=U hmx;have HR:=U hsr
 clear hst hmx hsr
 go_wp2_with fail
 refine bodyPost_end (results_none rfl _ _ _) rfl ?_
 exact⟨⟨_,rfl⟩,g,HS.out,HM.out,HR.out⟩
end Ts
end Go.Proofs.YtaahfiopdoinkaaGreat
namespace Go.Proofs.YtaahfiopdoinkaaGreat
namespace Ts
open Ta (RF rfL PMap code kfX Xs DQ GG Gt Uv FP FC Sc XG Lk)
open Hi (XM HM DP CIn)
theorem Uu (key : RF -> Nat) : ∀ (ol gl : List RF), gl.Pairwise (fun a b => key a < key b) -> ol.Pairwise (fun a b => key a < key b) -> (∀ x ∈ gl, x ∈ ol) -> gl.length = ol.length -> gl = ol
 | [],gl,_,_,_,h=>List.eq_nil_of_length_eq_zero h
 | b::t',[],_,_,_,h=>by simp at h
 | b::t',a::t,hg,ho,hs,hl=>by
  obtain⟨ha,ht⟩:=List.pairwise_cons.1 hg
  obtain⟨hb,ht'⟩:=List.pairwise_cons.1 ho
  have hba:key b<=key a:=by
   rcases List.mem_cons.1 (hs a List.mem_cons_self) with e|e
   ·rw[e];exact Nat.le_refl _
   ·exact Nat.le_of_lt (hb a e)
  have e:=Uu key t' t ht ht' (fun y hy=>by
   rcases List.mem_cons.1 (hs y (List.mem_cons_of_mem _ hy)) with e|e
   ·have:=ha y hy;rw[e] at this;omega
   ·exact e) (by simpa using hl)
  subst e
  rcases List.mem_cons.1 (hs a List.mem_cons_self) with e|e
  ·rw[e]
  ·have:=ha a e;omega
def at_ (rs:List RF)(i:Nat):RF:=(rs[i]?).getD ⟨⟨#[]⟩,0,0,0⟩
theorem Ve (rs:List RF)(i:Nat)(h:i<rs.length):at_ rs i=rs[i]:=by unfold at_;rw[List.getElem?_eq_getElem h];rfl
theorem Yt {x:XM}(rs:List RF)(hl:rs.Pairwise fun a b=>kfX x a<kfX x b)(hK:∀r∈rs,kfX x r<x.flows.length*18446744073709551616)(hi:∀r∈rs,r.id<18446744073709551616/\r.flow.size<=maxLen)(hn:rs.length<=1000000000000):Gt x.flows rs (DQ rs):=by
 obtain⟨hp,hs⟩:=GG (K:=x.flows.length*18446744073709551616) (kf:=kfX x) rs hK hl
 refine⟨hp.length_eq.symm,fun W A c pb nn base hm hpb hz ho=> ?_⟩
 rcases ho.2 with ⟨e,h0⟩|⟨r,cp,cur,e,q2,q3,q4,q5,q6,q7⟩
 ·have hnil : rs = [] := List.eq_nil_of_length_eq_zero h0
  subst hnil
  exact(Uv x.flows [] O3).2 W A c pb nn base hm hpb hz ho
 ·cases e
  obtain⟨hcell,hfz,hlt,hge⟩:=DP ho
  obtain⟨K,hKK⟩:=Rm (x.flows.length*18446744073709551616)
  rw[<-hKK] at hs hK
  have hE:Env base r rs.length W pb (code K (kfX x)) (fun a=>(a.id<18446744073709551616/\a.flow.size<=maxLen)/\kfX x a<K):=⟨fun W' a b hb ha hbb=>by
   have h1:=XG a.flow b.flow a.id b.id a.at' b.at' a.n b.n x.flows pb nn W' (hm.keep (hb.block pb hpb)) ha.1.2 hbb.1.2
   have hk:Ta.or3 (Lv.DZ a.at' b.at') (Nm.GL ((Hi.Dr x.flows a.flow).getD 0:Nat) ((Hi.Dr x.flows b.flow).getD 0:Nat)) (Lv.DZ a.id b.id)=Lv.DZ (code K (kfX x) a) (code K (kfX x) b):=Lk (K:=K) (M:=18446744073709551616) ha.2 hbb.2 ha.1.1 hbb.1.1
   rw[hk] at h1
   exact h1,hn⟩
  have hS:St base r rs.length W (code K (kfX x)) (fun a=>(a.id<18446744073709551616/\a.flow.size<=maxLen)/\kfX x a<K) W (at_ rs):=by
   refine⟨⟨hlt,hge,fun i hi q hq=> ?_,fun o _=>hfz o⟩,Below.refl _ _,fun i hi'=> ?_,fun i j h1 h2 h3=> ?_⟩
   ·rw[hcell _ O0,Sc rs i q hi hq,Ve rs i hi]
   ·rw[Ve rs i hi'];exact⟨hi _ (List.getElem_mem hi'),hK _ (List.getElem_mem hi')⟩
   ·rw [Ve rs i h1, Ve rs j h2] at h3
    have e:kfX x rs[i]=kfX x rs[j]:=by
     unfold code at h3
     have:=congrArg (· % K) h3
     simp only[Nat.mul_add_mod_self_right] at this
     rwa [Nat.mod_eq_of_lt (hK _ (List.getElem_mem h1)),Nat.mod_eq_of_lt (hK _ (List.getElem_mem h2))] at this
    rcases Nat.lt_trichotomy i j with z|z|z
    ·have:=List.pairwise_iff_getElem.1 hl i j h1 h2 z;omega
    ·exact z
    ·have:=List.pairwise_iff_getElem.1 hl j i h2 h1 z;omega
  refine(LU hE c ⟨q4,q5⟩ hS).mono ?_
  rintro e w' ⟨hv,g,hst,hmx,hsr⟩
  refine⟨hv,hst.below,?_⟩
  have hgl:(List.range rs.length).map g=DQ rs:=by
   refine Uu (code K (kfX x)) _ _ ?_ hs (fun y hy=> ?_) (by simp[hp.length_eq])
   ·refine List.pairwise_iff_getElem.2 fun i j h1 h2 h3 => ?_
    simp only[List.length_map,List.length_range] at h1 h2
    simp only[List.getElem_map,List.getElem_range]
    exact hsr i j (Nat.zero_le _) h3 h2
   ·obtain ⟨i, hi', rfl⟩ := List.mem_map.1 hy
    have hi2:=List.mem_range.1 hi'
    obtain⟨l,-,l2,l3⟩:=hmx.in_ (Nat.zero_le i) hi2
    rw[l3,Ve rs l l2]
    exact hp.mem_iff.1 (List.getElem_mem l2)
  have hlen:(DQ rs).length=rs.length:=hp.length_eq.symm
  refine⟨by rw[FP,hlen],FC _,_,_,rfl,q4,q5,fun h0=>⟨r,0,rfl,hst.row.lt,fun p v hv=> ?_⟩⟩
  have hlp:=(List.getElem?_eq_some_iff.1 hv).1
  rw[FP,hlen] at hlp
  have e:p=p/4*4+p%4:=O0
  have h4:p/4<(DQ rs).length:=O0
  rw[e,Sc _ _ _ h4 O0] at hv
  rw[Nat.zero_add,e,hst.row.cell (p/4) O0 (p%4) O0, <-hv]
  have eg:(DQ rs)[p/4]=g (p/4):=by
   have h5:(DQ rs)[p/4]?=((List.range rs.length).map g)[p/4]?:=by rw[hgl]
   rw[List.getElem?_eq_getElem h4,List.getElem?_eq_getElem (by simp;omega)] at h5
   simpa using Option.some.inj h5
  rw[eg]
end Ts
end Go.Proofs.YtaahfiopdoinkaaGreat
