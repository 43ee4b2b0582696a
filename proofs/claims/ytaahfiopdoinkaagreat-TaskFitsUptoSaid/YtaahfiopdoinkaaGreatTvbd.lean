/- breakPatterns of references. -/
import Derived.Test.YtaahfiopdoinkaaGreatTvbc
import Derived.Shelf.SlSortCmp.Xorshift
import Derived.Sort.LotD1
import Derived.Test.YtaahfiopdoinkaaGreatTvas
import Derived.Test.YtaahfiopdoinkaaGreatTvbb
import Derived.Test.YtaahfiopdoinkaaGreatTvam
import Derived.Test.YtaahfiopdoinkaaGreatTvaz
import Derived.Test.YtaahfiopdoinkaaGreatRows
set_option maxRecDepth 100000
set_option maxHeartbeats 8000000
variable {p : Prop}
set_option linter.unusedVariables false
set_option linter.unusedSimpArgs false
open Go.RowKit
namespace Go.Proofs.YtaahfiopdoinkaaGreat
open Go.Shelf Go.Lib
open Go.RowKit Go.Sort
def Tryz.laysXn_ren : Go.Shelf.Ren:=⟨fun|48=>154|n=>n,fun|76=>249|55=>23|0=>0|66=>232|39=>173|n=>n,fun|n=>n⟩
theorem Tryz.laysXn : Go.Proofs.SlLaysF0.n48 Tryz.prog Tryz.laysXn_ren := {
  mixed:=O2
  f48:=Tryz.func154.trans (congrArg some O2)
  t0:=Tryz.underlying0
  a0:=Tryz.isAgg0
  z0:=Tryz.sizeOf0
  v0:=Tryz.zeroValue0
  t39:=Tryz.underlying173
  a39:=Tryz.isAgg173
  z39:=Tryz.sizeOf173
  v39:=Tryz.zeroValue173
  t55:=Tryz.underlying23
  a55:=Tryz.isAgg23
  z55:=Tryz.sizeOf23
  v55:=Tryz.zeroValue23
  t66:=Tryz.underlying232
  a66:=Tryz.isAgg232
  z66:=Tryz.sizeOf232
  v66:=Tryz.zeroValue232
  t76:=Tryz.underlying249
  a76:=Tryz.isAgg249
  z76:=Tryz.sizeOf249
  v76:=Tryz.zeroValue249}
def Tryz.laysNp_ren : Go.Shelf.Ren:=⟨fun|47=>153|15=>92|28=>129|29=>130|n=>n,fun|3=>3|39=>173|53=>212|55=>23|4=>4|5=>5|9=>9|n=>n,fun|n=>n⟩
theorem Tryz.laysNp : Go.Proofs.SlLaysF0.n47 Tryz.prog Tryz.laysNp_ren := {
  mixed:=O2
  f15:=Tryz.func92.trans (congrArg some O2)
  f28:=Tryz.func129.trans (congrArg some O2)
  f29:=Tryz.func130.trans (congrArg some O2)
  f47:=Tryz.func153.trans (congrArg some O2)
  t3:=Tryz.underlying3
  a3:=Tryz.isAgg3
  z3:=Tryz.sizeOf3
  v3:=Tryz.zeroValue3
  t4:=Tryz.underlying4
  a4:=Tryz.isAgg4
  z4:=Tryz.sizeOf4
  v4:=Tryz.zeroValue4
  t5:=Tryz.underlying5
  a5:=Tryz.isAgg5
  z5:=Tryz.sizeOf5
  v5:=Tryz.zeroValue5
  t9:=Tryz.underlying9
  a9:=Tryz.isAgg9
  z9:=Tryz.sizeOf9
  v9:=Tryz.zeroValue9
  t39:=Tryz.underlying173
  a39:=Tryz.isAgg173
  z39:=Tryz.sizeOf173
  v39:=Tryz.zeroValue173
  t53:=Tryz.underlying212
  a53:=Tryz.isAgg212
  z53:=Tryz.sizeOf212
  v53:=Tryz.zeroValue212
  t55:=Tryz.underlying23
  a55:=Tryz.isAgg23
  z55:=Tryz.sizeOf23
  v55:=Tryz.zeroValue23}
namespace Ts
open Ta (RF rfL PMap)
open Lv (Fp)
open Vt (Da)
variable {base blk n : Nat} {W W' w0 : World} {f g : Nat -> RF} {key : RF -> Nat} {Ok : RF -> Prop} {mb : Nat}
theorem next_any (rb X:Nat)(hX:X<18446744073709551616)(w:World)(hc:w.cell? ⟨rb,0,none⟩=some (.int .u64 X))(hf:w.frozen? ⟨rb,0,none⟩=false) :
  Calls Tryz.prog 154 #[.pointer (some ⟨rb,0,none⟩)] w fun e w'=>∃Y:Nat,Y<18446744073709551616/\e= .returned (.int .u64 (Y:Nat))/\w'=(w.setCell ⟨rb,0,none⟩ (.int .u64 (Y:Nat))).drewN 3:=
 (AnyF.xorshift_Next Tryz.laysXn rb 0 X hX w hc hf).mono (by rintro e w' ⟨h1,h2⟩;exact⟨_,xorNextN_lt X hX,h1,h2⟩)
theorem pow2_any (n:Nat)(h0:0<n)(hn:n<4611686018427387904)(w:World) :
  Calls Tryz.prog 153 #[.int .i64 n] w fun e w'=>∃M:Nat,1<=M/\M<=2*n/\e= .returned (.int .u64 (M:Nat))/\w'=w:=
 (AnyF.nextPowerOfTwo Tryz.laysNp n hn w).mono (by
  rintro e w' ⟨h1,h2⟩
  refine⟨_,?_,?_,h1,h2⟩
  ·rw[Nat.one_shiftLeft];exact Nat.two_pow_pos _
  ·rw[Nat.one_shiftLeft];exact two_pow_bitsLen_le h0)
structure Rn (base blk : Nat) (W : World) (sb : Nat) : Prop where
 lt:sb<W.heap.size
 ge:base<=sb
 ne:sb≠blk
 cell:∃X:Nat,X<18446744073709551616/\W.cell? ⟨sb,0,none⟩=some (.int .u64 X)
 fz:W.frozen? ⟨sb,0,none⟩=false
theorem Rn.later {sb:Nat}(h:Rn base blk W sb)(hb:Below W.heap.size W W'):Rn base blk W' sb:=
 ⟨Nat.lt_of_lt_of_le h.lt hb.size,h.ge,h.ne,h.cell.elim fun c hc=>⟨c,hc.1,(hb.cell (p:=⟨sb,0,none⟩) h.lt).trans hc.2⟩,(hb.frozen (p:=⟨sb,0,none⟩) h.lt).trans h.fz⟩
theorem Rn.set {sb:Nat}(h:Rn base blk W sb){X:Nat}(hX:X<18446744073709551616):Rn base blk (W.setCell ⟨sb,0,none⟩ (.int .u64 (X:Nat))) sb:=
 ⟨by simp only[World.size_setCell];exact h.lt,h.ge,h.ne,⟨X,hX,h.cell.elim fun d hd=>World.cell?_setCell_same' _ _ _ (by rw[hd.2];rfl)⟩,by simp only[World.frozen?_setCell];exact h.fz⟩
theorem Rn.other {sb:Nat}(h:Rn base blk W sb)(o:Nat)(v:Value):Rn base blk (W.setCell ⟨blk,o,none⟩ v) sb:=
 ⟨by simp only[World.size_setCell];exact h.lt,h.ge,h.ne,h.cell.elim fun c hc=>⟨c,hc.1,by rw[World.cell?_setCell_other _ _ _ _ (fun e=>h.ne (by cases e;rfl))];exact hc.2⟩,by simp only[World.frozen?_setCell];exact h.fz⟩
theorem Rn.alloc (h:FRow base blk n W f){X:Nat}(hX:X<18446744073709551616)(t:Nat):Rn base blk (W.alloc (Obj.cells #[Value.int IntKind.u64 (X:Nat)] t)) W.heap.size:=
 ⟨O3,by have:=h.ge;have:=h.lt;omega,by have:=h.lt;omega,⟨X,hX,O3⟩,O3⟩
theorem below_drewN (W:World)(k:Nat):Below W.heap.size W (W.drewN k):=⟨rfl,rfl,rfl,Nat.le_refl _,fun b hb=>rfl⟩
theorem Q602.Y596 (h:p:=by
 go_wp2_with fail
 go_roundw
 case rel=>exact⟨i+1,_,by go_num,O0,O0,HW.out,(((((((((HR2.out.other _ _).other _ _).other _ _).other _ _).other _ _).other _ _).other _ _).other _ _).later (Da (Below.refl _ _))),HX3.out⟩
 case measure=>(simp[intOf];try omega)):p:=h
theorem M42 (h:p:=by
 have hen:eo<n:=by have:=HM.out;omega
 have hez:(eo:Int)<(n:Int):=O0
 have HX3:Hid (Mix a b f (sw g i eo)):=U (HX1.out.trans (FQ g (by have:=HM.out;omega) (by have:=HM.out;omega)))
 clear heo
 obtain⟨x,hx⟩:=Rv (g i)
 obtain⟨y,hy⟩:=Rv (g eo)
 obtain⟨xf,xi,xn,xa⟩:=x
 obtain⟨yf,yi,yn,ya⟩:=y
 obtain⟨⟨⟨x0,x1,x2,x3⟩,y0,y1,y2,y3⟩,⟨⟨u0,u1,u2,u3⟩,v0,v1,v2,v3⟩,⟨q0,q1,q2,q3⟩,hsw⟩:=HS2.out.swp (i:=i) (j:=eo) hin hen hx.symm hy.symm
 open Q602 in exact Rl):p:=h
theorem Q571.Y564 (h:p:=by
 obtain⟨L,hL⟩:=Rv (b-a)
 obtain⟨t,ht⟩:=Rv (L/4)
 obtain⟨t2,ht2⟩:=Rv (t*2)
 obtain⟨m,hm⟩:=Rv (a+t2)
 obtain⟨m0,hm0⟩:∃m0,m0+1=m:=⟨m-1,O0⟩
 obtain⟨m1,hm1⟩:=Rv (m+1)
 have hsub:(b:Int)-(a:Int)=(L:Int):=O0
 have hdiv:(L:Int)/4=(t:Int):=O0
 have wt2:IntKind.i64.wrap ((t:Int)*2)=(t2:Int):=by rw[IntKind.wrap_i64]<;>omega
 have wm:IntKind.i64.wrap ((a:Int)+(t2:Int))=(m:Int):=by rw[IntKind.wrap_i64]<;>omega
 have wm0:IntKind.i64.wrap ((m:Int)-1)=(m0:Int):=by rw[IntKind.wrap_i64]<;>omega
 have wm1:IntKind.i64.wrap ((m:Int)+1)=(m1:Int):=by rw[IntKind.wrap_i64]<;>omega
 have hL8:8<=L:=O0
 have hL8z:(8:Int)<=(L:Int):=O0
 have HM:Hid (a<=m0/\m1<b/\L=b-a/\m0+2=m1):=U O0
 have hLn:L<4611686018427387904:=O0
 have hLn0:0<L:=O0
 have hNP:=fun w=>pow2_any L hLn0 hLn w
 have HNP:=U hNP
 clear hL ht ht2 hm hm0 hm1 hNP
 go_enter Tryz.func123,Tryz.ntmps123
 go_upto_region 3 with fail
 obtain⟨sb,hsb⟩:=Rv (W.heap.size)
 have HS0:=U (HST.out.later ((Below.refl _ _).alloc (Nat.le_refl _) (Obj.cells #[Value.int IntKind.u64 (L:Nat)] 232)))
 have HR0:=U (Rn.alloc HST.out.row (X:=L) O0 232)
 rw[<-hsb] at HR0 ⊢
 generalize hwa:W.alloc (Obj.cells #[Value.int IntKind.u64 (L:Nat)] 232)=wa at HS0 HR0 ⊢
 clear HST hsb hwa
 go_wp2_with fail
 refine(HNP.out _).mono ?_
 rintro e w1 ⟨M,hM1,hM2,rfl,rfl⟩
 obtain⟨M1,hMM⟩:∃M1,M1+1=M:=⟨M-1,O0⟩
 have wM:IntKind.u64.wrap ((M:Int)-1)=(M1:Int):=by rw[IntKind.wrap_u64]<;>omega
 have HMM:Hid (M1<2*L):=U O0
 clear hMM hM1 hM2 HNP
 go_wp2_with fail
 go_loopw [11] (fun v wr=>∃(i:Nat) (g:Nat->RF),v= .int .i64 i/\m0<=i/\i<=m1+1/\St base blk n w0 key Ok wr g/\Rn base blk wr sb/\Mix a b f g) (fun v _=>m1+1-(intOf v).toNat)
 case atStart=>exact⟨m0,f,by go_num,Nat.le_refl _,by have:=HM.out;omega,HS0.out,HR0.out,Mix.refl _ _ _⟩
 case round=>
  obtain⟨i,g,rfl,hi0,hi1,hst,hrn,hmx⟩:=hrel
  have HS1:=U hst;have HR1:=U hrn;have HX1:=U hmx
  clear hst hrn hmx HS0 HR0
  by_cases him:i<=m1
  ·have himz : (i : Int) <= (m1 : Int) := O0
   have hin:i<n:=by have:=HM.out;omega
   have hiz:(i:Int)<(n:Int):=O0
   obtain⟨X,hX,hc⟩:=HR1.out.cell
   have hN:=next_any sb X hX wr hc HR1.out.fz
   have HN:=U hN
   clear hN hc hX
   go_wp2_with fail
   refine HN.out.mono ?_
   rintro e w2 ⟨Y,hY,rfl,rfl⟩
   have HS2:=U ((HS1.out.set HR1.out.ge HR1.out.ne 0 (.int .u64 (Y:Nat))).later (below_drewN _ 3))
   have HR2:=U ((HR1.out.set hY).later (below_drewN _ 3))
   generalize hwn:(wr.setCell ⟨sb,0,none⟩ (.int .u64 (Y:Nat))).drewN 3=wn at HS2 HR2 ⊢
   clear hwn HN HS1 HR1
   obtain⟨O,hO⟩:=Rv (Y&&& M1:Nat)
   have lO:O<=M1:=by rw[hO];exact Nat.and_le_right
   have eAnd:bits .and .u64 (Y:Int) (M1:Int)=(O:Int):=by
    rw[bits_and_u64_nat _ _ hY (by have:=HMM.out;omega),hO]
   have HO:Hid (O<2*L):=U (by have:=HMM.out;omega)
   have hO63:(O:Int)<9223372036854775808:=by have:=HO.out;omega
   clear hO lO hY
   by_cases hOL:L<=O
   ·have hOLz : (L : Int) <= (O : Int) := O0
    obtain⟨P,hP⟩:=Rv (O-L)
    have wP:IntKind.i64.wrap ((O:Int)-(L:Int))=(P:Int):=by rw[IntKind.wrap_i64]<;>omega
    have hPL:P<L:=by have:=HO.out;omega
    clear hP
    obtain⟨eo,heo⟩:=Rv (a+P)
    have weo:IntKind.i64.wrap ((a:Int)+(P:Int))=(eo:Int):=by rw[IntKind.wrap_i64]<;>(have:=HM.out;omega)
    exact M42
   ·have hOLz : ¬ (L : Int) <= (O : Int) := O0
    have hPL:O<L:=O0
    obtain⟨eo,heo⟩:=Rv (a+O)
    have weo:IntKind.i64.wrap ((a:Int)+(O:Int))=(eo:Int):=by rw[IntKind.wrap_i64]<;>(have:=HM.out;omega)
    exact M42
  ·have himz : ¬ (i : Int) <= (m1 : Int) := O0
   go_wp2_with fail
   refine bodyPost_end (results_none rfl _ _ _) rfl ?_
   exact⟨⟨_,rfl⟩,g,HS1.out,HX1.out⟩):p:=h
theorem NZ (hE : Env base blk n w0 mb key Ok) (a b : Nat) (hab : a + 12 < b) (hb : b <= n) (cap : Nat) (hcap : n <= cap /\ cap <= maxLen) (h : St base blk n w0 key Ok W f) : 
  Calls Tryz.prog 123 #[.slice (some ⟨blk,0,none⟩) n cap,.int .i64 a,.int .i64 b,.func (.func 46) #[.map (some mb)] #[]] W fun e w'=>(∃v,e= .returned v)/\∃g,St base blk n w0 key Ok w' g/\Mix a b f g:=by
 open Q571 in exact KC
end Ts
end Go.Proofs.YtaahfiopdoinkaaGreat
namespace Go.Proofs.YtaahfiopdoinkaaGreat
open Go.RowKit Go.Sort
namespace Ts
open Ta (RF rfL PMap)
open Lv (Fp)
open Vt (Da)
variable {base blk n : Nat} {W W' w0 : World} {f g : Nat -> RF} {key : RF -> Nat} {Ok : RF -> Prop} {mb : Nat}
def Done (key:RF->Nat)(a0 b0 a b:Nat)(g:Nat->RF):Prop:=∀p q,a0<=p->p<q->q<b0->¬(a<=p/\q<b)->key (g p)<key (g q)
theorem Done.mix {a0 b0 a b:Nat}{g':Nat->RF}(h:Done key a0 b0 a b g)(m:Mix a b g g')(ha:a0<=a)(hb:b<=b0):Done key a0 b0 a b g':=fun p q h1 h2 h3 h4=>by
 by_cases P:a<=p/\p<b
 ·obtain ⟨l, l1, l2, l3⟩ := m.in_ P.1 P.2
  rw[l3,m.out (k:=q) O0]
  exact h l q O0 O0 h3 O0
 ·rw [m.out (k := p) O0]
  by_cases Q:a<=q/\q<b
  ·obtain ⟨l, l1, l2, l3⟩ := m.in_ Q.1 Q.2
   rw[l3]
   exact h p l h1 O0 O0 O0
  ·rw [m.out (k := q) O0]
   exact h p q h1 h2 h3 h4
theorem Done.finish {a0 b0 a b:Nat}(h:Done key a0 b0 a b g)(s:Srt key a b g):Srt key a0 b0 g:=fun p q h1 h2 h3=>by
 by_cases c:a<=p/\q<b
 ·exact s p q c.1 h2 c.2
 ·exact h p q h1 h2 h3 c
theorem Done.left {a0 b0 a b mid:Nat}{g':Nat->RF}(h:Done key a0 b0 a b g)(h1:a<=mid)(h2:mid<b)(ha:a0<=a)(hb:b<=b0)(lo:∀k,a<=k->k<mid->key (g k)<key (g mid))(hi:∀k,mid<k->k<b->key (g mid)<key (g k))(m:Mix a mid g g')(s:Srt key a mid g'):Done key a0 b0 (mid+1) b g':=by
 have h':=h.mix (m.mono (Nat.le_refl _) (Nat.le_of_lt h2)) ha hb
 have lo':∀k,a<=k->k<mid->key (g' k)<key (g' mid):=fun k k1 k2=>by
  obtain⟨l,l1,l2,l3⟩:=m.in_ k1 k2
  rw[l3,m.out (k:=mid) O0];exact lo l l1 l2
 have hi':∀k,mid<k->k<b->key (g' mid)<key (g' k):=fun k k1 k2=>by
  rw[m.out (k:=mid) O0,m.out (k:=k) O0];exact hi k k1 k2
 intro p q p1 p2 p3 p4
 by_cases c:a<=p/\q<b
 ·rcases Nat.lt_trichotomy q mid with z | z | z
  ·exact s p q c.1 p2 z
  ·rw[z];exact lo' p c.1 O0
  ·by_cases e : p = mid
   ·rw[e];exact hi' q z c.2
   ·exact Nat.lt_trans (lo' p c.1 O0) (hi' q z c.2)
 ·exact h' p q p1 p2 p3 c
theorem Done.right {a0 b0 a b mid:Nat}{g':Nat->RF}(h:Done key a0 b0 a b g)(h1:a<=mid)(h2:mid<b)(ha:a0<=a)(hb:b<=b0)(lo:∀k,a<=k->k<mid->key (g k)<key (g mid))(hi:∀k,mid<k->k<b->key (g mid)<key (g k))(m:Mix (mid+1) b g g')(s:Srt key (mid+1) b g'):Done key a0 b0 a mid g':=by
 have h':=h.mix (m.mono O0 (Nat.le_refl _)) ha hb
 have lo':∀k,a<=k->k<mid->key (g' k)<key (g' mid):=fun k k1 k2=>by
  rw[m.out (k:=mid) O0,m.out (k:=k) O0];exact lo k k1 k2
 have hi':∀k,mid<k->k<b->key (g' mid)<key (g' k):=fun k k1 k2=>by
  obtain⟨l,l1,l2,l3⟩:=m.in_ (show mid+1<=k by omega) k2
  rw[l3,m.out (k:=mid) O0];exact hi l O0 l2
 intro p q p1 p2 p3 p4
 by_cases c:a<=p/\q<b
 ·by_cases z : q = mid
  ·rw[z];exact lo' p c.1 O0
  ·rcases Nat.lt_trichotomy p mid with y | y | y
   ·exact Nat.lt_trans (lo' p c.1 y) (hi' q O0 c.2)
   ·rw[y];exact hi' q O0 c.2
   ·exact s p q O0 p2 c.2
 ·exact h' p q p1 p2 p3 c
def Low (key:RF->Nat)(a b:Nat)(f:Nat->RF):Prop:=∀k l,k<a->a<=l->l<b->key (f k)<key (f l)
theorem Low.window {a0 b0 a b:Nat}(h:Low key a0 b0 f)(m:Mix a0 b0 f g)(d:Done key a0 b0 a b g)(ha:a0<=a)(hb:b<=b0):Low key a b g:=fun k l h1 h2 h3=>by
 by_cases c:k<a0
 ·exact m.low h c O0 O0
 ·exact d k l O0 O0 O0 O0
theorem Low.mix {a b:Nat}(h:Low key a b f)(m:Mix a b f g):Low key a b g:=fun k l h1 h2 h3=>m.low h h1 h2 h3
theorem Low.right {a b mid:Nat}(h:Low key a b g)(h1:a<=mid)(lo:∀k,a<=k->k<mid->key (g k)<key (g mid))(hi:∀k,mid<k->k<b->key (g mid)<key (g k)):Low key (mid+1) b g:=fun k l k1 k2 k3=>by
 rcases Nat.lt_trichotomy k mid with y|y|y
 ·by_cases c : k < a
  ·exact h k l c O0 k3
  ·exact Nat.lt_trans (lo k O0 y) (hi l O0 k3)
 ·rw[y];exact hi l O0 k3
 ·omega
theorem M62 (h:p:=by
 rintro e w2 ⟨⟨v,rfl⟩,g2,hst,hmx,hsr⟩
 have HS2:=U hst
 have HM2:Hid (Mix a0 b0 f g2):=U (HM.out.trans (hmx.mono ha0 hb0))
 have HR2:Hid (Srt key a0 b0 g2):=U ((HD.out.mix hmx ha0 hb0).finish hsr)
 clear hst hmx hsr
 go_wp2_with fail
 try simp only[Exit.inBlock,Exit.then]
 refine bodyPost_ret (results_none rfl _ _ _) rfl ?_
 exact⟨⟨_,rfl⟩,g2,HS2.out,HM2.out,HR2.out⟩):p:=h
theorem M169 (h:p:=by
 go_wp2_with fail
 go_meet
 case rel=>exact⟨⟨_,rfl⟩,HS4.out⟩):p:=h
theorem Q462.Y461 (h:p:=by
 have hcv0:cv<0:=HCV.out.2 HK.out
 go_wp2_with fail
 go_quiet_grown (first | (go_at_call 46;refine Calls.grown_of (hcg _ _)))
 have HQ:=U (HS7.out.later (DK wc nq osq))
 generalize hwq:grow (wc.drewN (GrownBy.mk nq osq).n) (GrownBy.mk nq osq).os=wq
 rw[show grow (wc.drewN nq) osq=wq from hwq] at HQ
 clear hwq hcg x0 x1 x2 x3 y0 y1 y2 y3
 go_wp2_with fail
 go_meet
 case rel=>exact⟨by simp[hcv0],HQ.out⟩):p:=h
theorem pdq_any (hE:Env base blk n w0 mb key Ok)(cap:Nat)(hcap:n<=cap/\cap<=maxLen):∀(K:Nat) (W:World) (f:Nat->RF) (a0 b0 lim:Nat),b0-a0<K->a0<=b0->b0<=n->lim<=1000->Low key a0 b0 f->St base blk n w0 key Ok W f->
  Calls Tryz.prog 91 #[.slice (some ⟨blk,0,none⟩) n cap,.int .i64 a0,.int .i64 b0,.int .i64 lim,.func (.func 46) #[.map (some mb)] #[]] W fun e w'=>(∃v,e= .returned v)/\∃g,St base blk n w0 key Ok w' g/\Mix a0 b0 f g/\Srt key a0 b0 g:=by
 intro K
 induction K with
 | zero=>intro W f a0 b0 lim h;omega
 | succ K ih=>
 intro W f a0 b0 lim0 hK hab hb hlim hlow h
 have HIH:=U ih
 have HE:=U hE;have HST:=U h;have HLOW:=U hlow
 have hn:=hE.len
 obtain⟨hc1,hc2⟩:=hcap
 simp only[maxLen] at hc2
 have mx:=mixed
 have CI:Hid (∀(W:World) (f:Nat->RF) (a b:Nat),a<=b->b<=n->St base blk n w0 key Ok W f->Calls Tryz.prog 121 #[.slice (some ⟨blk,0,none⟩) n cap,.int .i64 a,.int .i64 b,.func (.func 46) #[.map (some mb)] #[]] W fun e w'=>(∃v,e= .returned v)/\∃g,St base blk n w0 key Ok w' g/\Mix a b f g/\Srt key a b g):=U fun W f a b h1 h2 h3=>ins_any HE.out a b O0 h2 cap ⟨hc1,by simp only[maxLen];exact hc2⟩ h3
 have CH:Hid (∀(W:World) (f:Nat->RF) (a b:Nat),a+12<b->b<=n->St base blk n w0 key Ok W f->Calls Tryz.prog 122 #[.slice (some ⟨blk,0,none⟩) n cap,.int .i64 a,.int .i64 b,.func (.func 46) #[.map (some mb)] #[]] W fun e w'=>(∃v,e= .returned v)/\∃g,St base blk n w0 key Ok w' g/\Mix a b f g/\Srt key a b g):=U fun W f a b h1 h2 h3=>heap_any HE.out a b O0 h2 cap ⟨hc1,by simp only[maxLen];exact hc2⟩ h3
 have CB:Hid (∀(W:World) (f:Nat->RF) (a b:Nat),a+12<b->b<=n->St base blk n w0 key Ok W f->Calls Tryz.prog 123 #[.slice (some ⟨blk,0,none⟩) n cap,.int .i64 a,.int .i64 b,.func (.func 46) #[.map (some mb)] #[]] W fun e w'=>(∃v,e= .returned v)/\∃g,St base blk n w0 key Ok w' g/\Mix a b f g):=U fun W f a b h1 h2 h3=>NZ HE.out a b h1 h2 cap ⟨hc1,by simp only[maxLen];exact hc2⟩ h3
 have CP:Hid (∀(W:World) (f:Nat->RF) (a b:Nat),a+12<b->b<=n->St base blk n w0 key Ok W f->Calls Tryz.prog 124 #[.slice (some ⟨blk,0,none⟩) n cap,.int .i64 a,.int .i64 b,.func (.func 46) #[.map (some mb)] #[]] W fun e w'=>∃p hint:Nat,e= .returned (.tuple #[.int .i64 p,.int .i64 hint])/\(a<=p/\p<b)/\St base blk n w0 key Ok w' f):=U fun W f a b h1 h2 h3=>Ki HE.out a b h1 h2 cap ⟨hc1,by simp only[maxLen];exact hc2⟩ h3
 have CR:Hid (∀(W:World) (f:Nat->RF) (a b:Nat),a+12<b->b<=n->St base blk n w0 key Ok W f->Calls Tryz.prog 125 #[.slice (some ⟨blk,0,none⟩) n cap,.int .i64 a,.int .i64 b,.func (.func 46) #[.map (some mb)] #[]] W fun e w'=>(∃v,e= .returned v)/\∃g,St base blk n w0 key Ok w' g/\Mix a b f g):=U fun W f a b h1 h2 h3=>Yo HE.out a b O0 h2 cap ⟨hc1,by simp only[maxLen];exact hc2⟩ h3
 have CS:Hid (∀(W:World) (f:Nat->RF) (a b:Nat),a+12<b->b<=n->St base blk n w0 key Ok W f->Low key a b f->Calls Tryz.prog 126 #[.slice (some ⟨blk,0,none⟩) n cap,.int .i64 a,.int .i64 b,.func (.func 46) #[.map (some mb)] #[]] W fun e w'=>∃r:Bool,e= .returned (.bool r)/\∃g,St base blk n w0 key Ok w' g/\Mix a b f g/\(r=true->Srt key a b g)):=U fun W f a b h1 h2 h3 h4=>Ys HE.out a b O0 h2 h4 cap ⟨hc1,by simp only[maxLen];exact hc2⟩ h3
 have CT:Hid (∀(W:World) (f:Nat->RF) (a b p:Nat),a+12<b->b<=n->St base blk n w0 key Ok W f->a<=p->p<b->Calls Tryz.prog 128 #[.slice (some ⟨blk,0,none⟩) n cap,.int .i64 a,.int .i64 b,.int .i64 p,.func (.func 46) #[.map (some mb)] #[]] W fun e w'=>∃(mid:Nat) (ap:Bool) (g:Nat->RF),e= .returned (.tuple #[.int .i64 mid,.bool ap])/\a<=mid/\mid<b/\St base blk n w0 key Ok w' g/\Mix a b f g/\(∀k,a<=k->k<mid->key (g k)<key (g mid))/\∀k,mid<k->k<b->key (g mid)<key (g k)):=U fun W f a b p h1 h2 h3 h4 h5=>part_any HE.out a b p h4 h5 h2 cap ⟨hc1,by simp only[maxLen];exact hc2⟩ h3
 clear h hE ih hlow
 go_enter Tryz.func91,Tryz.ntmps91
 go_wp2_with fail
 go_loopw [1,2,3,10,11] (fun v1 v2 v3 v4 v5 wr=>∃(a b lim:Nat) (wb wp:Bool) (g:Nat->RF),v1= .int .i64 a/\v2= .int .i64 b/\v3= .int .i64 lim/\v4= .bool wb/\v5= .bool wp/\a0<=a/\a<=b/\b<=b0/\lim<=1000/\St base blk n w0 key Ok wr g/\Mix a0 b0 f g/\Done key a0 b0 a b g) (fun v1 v2 _ _ _ _=>(intOf v2).toNat-(intOf v1).toNat)
 case atStart=>exact⟨a0,b0,lim0,true,true,f,rfl,rfl,rfl,rfl,rfl,Nat.le_refl _,hab,Nat.le_refl _,hlim,HST.out,Mix.refl _ _ _,fun p q h1 h2 h3 h4=>absurd ⟨h1,h3⟩ h4⟩
 case round=>
  obtain⟨a,b,lim,wb,wp,g,rfl,rfl,rfl,rfl,rfl,ha0,hab2,hb0,hlim2,hst,hmx,hdn⟩:=hrel
  have HS:=U hst;have HM:=U hmx;have HD:=U hdn
  clear hst hmx hdn HST hlim hab
  have HIN:Hid (b<=n/\b-a<=b0-a0):=U O0
  obtain⟨L,hL⟩:=Rv (b-a)
  have hsub:(b:Int)-(a:Int)=(L:Int):=O0
  have HL:=U hL
  clear hL
  by_cases h12:L<=12
  ·have h12z : (L : Int) <= 12 := O0
   go_wp2_with fail
   refine(CI.out _ _ a b hab2 HIN.out.1 HS.out).mono ?_
   exact M62
  ·have h12z : ¬ (L : Int) <= 12 := O0
   have hwide:a+12<b:=by have:=HL.out;omega
   have HWD:=U hwide
   clear hwide
   by_cases hl0:lim=0
   ·subst hl0
    go_wp2_with fail
    refine(CH.out _ _ a b HWD.out HIN.out.1 HS.out).mono ?_
    exact M62
   ·obtain ⟨limp, hlp⟩ : ∃ limp, limp + 1 = lim := ⟨lim - 1, O0⟩
    have hwl:IntKind.i64.wrap ((lim:Int)-1)=(limp:Int):=by rw[IntKind.wrap_i64]<;>omega
    have hl0z:¬(lim:Int)=0:=O0
    have hlpn:limp<=1000:=O0
    clear hlp
    go_upto_if 39 with fail
    go_cut [3] from 32 to 46 (fun z wx=>∃(lim2:Nat) (g2:Nat->RF),z= .int .i64 lim2/\lim2<=1000/\St base blk n w0 key Ok wx g2/\Mix a0 b0 f g2/\Done key a0 b0 a b g2)
    case first =>
     cases wb with
     | true=>
      go_wp2_with fail
      go_meet
      case rel=>exact⟨lim,g,rfl,hlim2,HS.out,HM.out,HD.out⟩
     | false=>
      go_wp2_with fail
      refine(CB.out _ _ a b HWD.out HIN.out.1 HS.out).mono ?_
      rintro e w2 ⟨⟨v,rfl⟩,g2,hst,hmx⟩
      have HS2:=U hst
      have HM2:Hid (Mix a0 b0 f g2):=U (HM.out.trans (hmx.mono ha0 hb0))
      have HD2:=U (HD.out.mix hmx ha0 hb0)
      clear hst hmx
      go_wp2_with fail
      go_meet
      case rel=>exact⟨limp,g2,by go_num,hlpn,HS2.out,HM2.out,HD2.out⟩
    case rest=>
     obtain⟨lim2,g2,rfl,hlim3,hst,hmx,hdn⟩:=hcut
     have HS2:=U hst;have HM2:=U hmx;have HD2:=U hdn
     clear hst hmx hdn HS HM HD hwl hl0z hl0 hlpn hlim2
     go_wp2_with fail
     refine(CP.out _ _ a b HWD.out HIN.out.1 HS2.out).mono ?_
     rintro e w3 ⟨p,hint,rfl,hp,hst⟩
     have HP:=U hp;have HS3:=U hst
     clear hp hst HS2
     go_upto_if 56 with fail
     go_cut [13,14] from 56 to 67 (fun z y wx=>∃(p2 hint2:Nat) (g3:Nat->RF),z= .int .i64 p2/\y= .int .i64 hint2/\(a<=p2/\p2<b)/\St base blk n w0 key Ok wx g3/\Mix a0 b0 f g3/\Done key a0 b0 a b g3)
     case first =>
      by_cases hh:hint=2
      ·subst hh
       go_wp2_with fail
       refine(CR.out _ _ a b HWD.out HIN.out.1 HS3.out).mono ?_
       rintro e w4 ⟨⟨v,rfl⟩,g3,hst,hmx⟩
       have HS4:=U hst
       have HM4:Hid (Mix a0 b0 f g3):=U (HM2.out.trans (hmx.mono ha0 hb0))
       have HD4:=U (HD2.out.mix hmx ha0 hb0)
       clear hst hmx
       obtain⟨bp,hbp⟩:∃bp,bp+1=b:=⟨b-1,by have:=HWD.out;omega⟩
       obtain⟨pa,hpa⟩:=Rv (p-a)
       obtain⟨p3,hp3⟩:=Rv (bp-pa)
       have hbn:b<=n:=HIN.out.1
       have wb1:IntKind.i64.wrap ((b:Int)-1)=(bp:Int):=by rw[IntKind.wrap_i64]<;>omega
       have wb2:IntKind.i64.wrap ((p:Int)-(a:Int))=(pa:Int):=by have:=HP.out;rw[IntKind.wrap_i64]<;>omega
       have wb3:IntKind.i64.wrap ((bp:Int)-(pa:Int))=(p3:Int):=by have:=HP.out;rw[IntKind.wrap_i64]<;>omega
       have HP3:Hid (a<=p3/\p3<b):=U (by have:=HP.out;omega)
       clear hbp hpa hp3 hbn
       go_wp2_with fail
       go_meet
       case rel=>exact⟨p3,1,g3,by go_num,by go_num,HP3.out,HS4.out,HM4.out,HD4.out⟩
      ·have hhz : ¬ (hint : Int) = 2 := O0
       go_wp2_with fail
       go_meet
       case rel=>exact⟨p,hint,g2,rfl,rfl,HP.out,HS3.out,HM2.out,HD2.out⟩
     case rest=>
      obtain⟨p2,hint2,g3,rfl,rfl,hp,hst,hmx,hdn⟩:=hcut
      have HP2:=U hp;have HS4:=U hst;have HM4:=U hmx;have HD4:=U hdn
      clear hp hst hmx hdn HP HS3 HM2 HD2
      go_upto_region 15 with fail
      go_cut [75] from 68 to 75 (fun z wx=>(∃q:Bool,z= .bool q)/\St base blk n w0 key Ok wx g3)
      case first =>
       cases wb with
       | false=>
        exact M169
       | true=>
        cases wp with
        | false=>
         exact M169
        | true=>
         exact M169
      case rest=>
       obtain⟨⟨q,rfl⟩,hst⟩:=hcut
       have HS5:=U hst
       clear hst HS4
       go_upto_if 75 with fail
       go_cut [80] from 75 to 80 (fun z wx=>∃g4:Nat->RF,St base blk n w0 key Ok wx g4/\Mix a0 b0 f g4/\Done key a0 b0 a b g4)
       case first =>
        cases q with
        | false=>
         go_wp2_with fail
         go_meet
         case rel=>exact⟨_,HS5.out,HM4.out,HD4.out⟩
        | true=>
         go_wp2_with fail
         refine(CS.out _ _ a b HWD.out HIN.out.1 HS5.out (HLOW.out.window HM4.out HD4.out ha0 hb0)).mono ?_
         rintro e w5 ⟨r,rfl,g4,hst,hmx,hsr⟩
         have HS6:=U hst
         have HM6:Hid (Mix a0 b0 f g4):=U (HM4.out.trans (hmx.mono ha0 hb0))
         have HD6:=U (HD4.out.mix hmx ha0 hb0)
         have HR6:Hid (r=true->Srt key a0 b0 g4):=U fun e=>HD6.out.finish (hsr e)
         clear hst hmx hsr
         cases r with
         | true=>
          go_wp2_with fail
          try simp only[Exit.inBlock,Exit.then]
          refine bodyPost_ret (results_none rfl _ _ _) rfl ?_
          exact⟨⟨_,rfl⟩,g4,HS6.out,HM6.out,HR6.out (by first | rfl|trivial)⟩
         | false=>
          go_wp2_with fail
          go_meet
          case rel=>exact⟨_,HS6.out,HM6.out,HD6.out⟩
       case rest=>
        obtain⟨g4,hst,hmx,hdn⟩:=hcut
        have HS7:=U hst;have HM7:=U hmx;have HD7:=U hdn
        have HLW:Hid (Low key a b g4):=U (HLOW.out.window hmx hdn ha0 hb0)
        clear hst hmx hdn HS5 HM4 HD4
        rename World=>wc
        go_upto_region 17 with fail
        go_cut [97] from 81 to 97 (fun z wx=>z= .bool false/\St base blk n w0 key Ok wx g4)
        case first =>
         by_cases h0a:0<a
         ·obtain ⟨ap, hap⟩ : ∃ ap, ap + 1 = a := ⟨a - 1, O0⟩
          have hbn:b<=n:=HIN.out.1
          have wap:IntKind.i64.wrap ((a:Int)-1)=(ap:Int):=by rw[IntKind.wrap_i64]<;>omega
          have hapn:ap<n:=O0
          have hapz:(ap:Int)<(n:Int):=O0
          have hpn:p2<n:=by have:=HP2.out;omega
          have hpz:(p2:Int)<(n:Int):=O0
          have h0z:(0:Int)<(a:Int):=O0
          have hkl:key (g4 ap)<key (g4 p2):=HLW.out ap p2 O0 HP2.out.1 HP2.out.2
          have HK:=U hkl
          clear hap hbn hkl
          obtain⟨xf,xi,xn,xa,yf,yi,yn,ya,cv,hx,hy,hcv,hcl,hcg⟩:=HS7.out.cmp HE.out (i:=ap) (j:=p2) hapn hpn
          open Q462 in exact Vp
         ·have h0z : ¬ (0 : Int) < (a : Int) := O0
          go_wp2_with fail
          go_region
          have HQ:=U (HS7.out.later (Da (Below.refl _ _)))
          go_wp2_with fail
          go_meet
          case rel=>exact⟨by first | rfl|simp,HQ.out⟩
        case rest=>
         obtain⟨rfl,hst⟩:=hcut
         have HS8:=U hst
         clear hst HS7
         go_wp2_with fail
         refine(CT.out _ _ a b p2 HWD.out HIN.out.1 HS8.out HP2.out.1 HP2.out.2).mono ?_
         rintro e w6 ⟨mid,ap,g6,rfl,hm1,hm2,hst,hmx,hlo,hhi⟩
         have HS9:=U hst
         have HM9:Hid (Mix a0 b0 f g6):=U (HM7.out.trans (hmx.mono ha0 hb0))
         have HD9:=U (HD7.out.mix hmx ha0 hb0)
         have HL9:=U (HLW.out.mix hmx)
         have HLO:=U hlo;have HHI:=U hhi
         clear hst hmx hlo hhi HS8 HM7 HD7 HLW HP2
         obtain⟨l1,hl1⟩:=Rv (mid-a)
         obtain⟨r1,hr1⟩:=Rv (b-mid)
         obtain⟨t8,ht8⟩:=Rv (L/8)
         have e1:(mid:Int)-(a:Int)=(l1:Int):=O0
         have e2:(b:Int)-(mid:Int)=(r1:Int):=O0
         have e3:(L:Int)/8=(t8:Int):=O0
         clear hl1 hr1 ht8
         have hmn:mid<n:=by have:=HIN.out;omega
         have hwm:IntKind.i64.wrap ((mid:Int)+1)=(mid:Int)+1:=by rw[IntKind.wrap_i64]<;>omega
         have HIN2:Hid (mid-a<K/\b-(mid+1)<K):=U (by have:=HIN.out;omega)
         by_cases hlr:l1<r1
         ·have hlrz : (l1 : Int) < (r1 : Int) := O0
          go_wp2_with fail
          refine(HIH.out _ _ a mid lim2 HIN2.out.1 hm1 O0 hlim3 (fun k l k1 k2 k3=>HL9.out k l k1 k2 O0) HS9.out).mono ?_
          rintro e w7 ⟨⟨v,rfl⟩,g7,hst,hmx,hsr⟩
          have HSa:=U hst
          have HMa:Hid (Mix a0 b0 f g7):=U (HM9.out.trans (hmx.mono ha0 O0))
          have HDa:=U (HD9.out.left hm1 hm2 ha0 hb0 HLO.out HHI.out hmx hsr)
          clear hst hmx hsr
          go_wp2_with fail
          go_roundw
          case rel=>exact⟨mid+1,b,lim2,_,ap,g7,by go_num,rfl,rfl,rfl,rfl,O0,O0,hb0,hlim3,HSa.out,HMa.out,HDa.out⟩
          case measure=>(simp[intOf];try omega)
         ·have hlrz : ¬ (l1 : Int) < (r1 : Int) := O0
          go_wp2_with fail
          refine(HIH.out _ _ (mid+1) b lim2 HIN2.out.2 O0 HIN.out.1 hlim3 (HL9.out.right hm1 HLO.out HHI.out) HS9.out).mono ?_
          rintro e w7 ⟨⟨v,rfl⟩,g7,hst,hmx,hsr⟩
          have HSa:=U hst
          have HMa:Hid (Mix a0 b0 f g7):=U (HM9.out.trans (hmx.mono O0 hb0))
          have HDa:=U (HD9.out.right hm1 hm2 ha0 hb0 HLO.out HHI.out hmx hsr)
          clear hst hmx hsr
          go_wp2_with fail
          go_roundw
          case rel=>exact⟨a,mid,lim2,_,ap,g7,rfl,rfl,rfl,rfl,rfl,ha0,hm1,O0,hlim3,HSa.out,HMa.out,HDa.out⟩
          case measure=>(simp[intOf];try omega)
end Ts
end Go.Proofs.YtaahfiopdoinkaaGreat
namespace Go.Proofs.YtaahfiopdoinkaaGreat
open Go.Shelf Go.Lib
open Go.RowKit Go.Sort
def Tryz.laysBl_ren : Go.Shelf.Ren:=⟨fun|15=>92|28=>129|29=>130|n=>n,fun|39=>173|3=>3|53=>212|55=>23|4=>4|5=>5|9=>9|n=>n,fun|n=>n⟩
theorem Tryz.laysBl : Go.Proofs.SlLaysF0.n15 Tryz.prog Tryz.laysBl_ren := {
  mixed:=O2
  f15:=Tryz.func92.trans (congrArg some O2)
  f28:=Tryz.func129.trans (congrArg some O2)
  f29:=Tryz.func130.trans (congrArg some O2)
  t3:=Tryz.underlying3
  a3:=Tryz.isAgg3
  z3:=Tryz.sizeOf3
  v3:=Tryz.zeroValue3
  t4:=Tryz.underlying4
  a4:=Tryz.isAgg4
  z4:=Tryz.sizeOf4
  v4:=Tryz.zeroValue4
  t5:=Tryz.underlying5
  a5:=Tryz.isAgg5
  z5:=Tryz.sizeOf5
  v5:=Tryz.zeroValue5
  t9:=Tryz.underlying9
  a9:=Tryz.isAgg9
  z9:=Tryz.sizeOf9
  v9:=Tryz.zeroValue9
  t39:=Tryz.underlying173
  a39:=Tryz.isAgg173
  z39:=Tryz.sizeOf173
  v39:=Tryz.zeroValue173
  t53:=Tryz.underlying212
  a53:=Tryz.isAgg212
  z53:=Tryz.sizeOf212
  v53:=Tryz.zeroValue212
  t55:=Tryz.underlying23
  a55:=Tryz.isAgg23
  z55:=Tryz.sizeOf23
  v55:=Tryz.zeroValue23}
namespace Ts
open Ta (RF rfL PMap)
open Lv (Fp)
open Vt (Da)
variable {base blk n : Nat} {W W' w0 : World} {f g : Nat -> RF} {key : RF -> Nat} {Ok : RF -> Prop} {mb : Nat}
theorem len_any (n:Nat)(hn:n<4611686018427387904)(w:World) :
  Calls Tryz.prog 92 #[.int .u64 n] w fun e w'=>∃k:Nat,k<=62/\e= .returned (.int .i64 (k:Nat))/\w'=w:=by
 have h:=Any.bits_Len (SlLaysF0.n15.bits Tryz.laysBl) (n:Int) w O0 O0
 rw[Int.toNat_natCast,bitLen_eq _ O0] at h
 exact h.mono (by rintro e w' ⟨h1,h2⟩;exact⟨_,(bitsLen_le_iff n 62).2 O0,h1,h2⟩)
theorem LU (hE:Env base blk n w0 mb key Ok)(cap:Nat)(hcap:n<=cap/\cap<=maxLen)(h:St base blk n w0 key Ok W f) :
  Calls Tryz.prog 60 #[.slice (some ⟨blk,0,none⟩) n cap,.func (.func 46) #[.map (some mb)] #[]] W fun e w'=>(∃v,e= .returned v)/\∃g,St base blk n w0 key Ok w' g/\Mix 0 n f g/\Srt key 0 n g:=by
 have hn:=hE.len
 have HL:=U (fun w=>len_any n O0 w)
 have HP:Hid (∀W k,k<=62->St base blk n w0 key Ok W f->Calls Tryz.prog 91 #[.slice (some ⟨blk,0,none⟩) n cap,.int .i64 0,.int .i64 n,.int .i64 (k:Nat),.func (.func 46) #[.map (some mb)] #[]] W fun e w'=>(∃v,e= .returned v)/\∃g,St base blk n w0 key Ok w' g/\Mix 0 n f g/\Srt key 0 n g):=U fun W k hk h=>
  pdq_any hE cap hcap (n+1) W f 0 n k O0 (Nat.zero_le _) (Nat.le_refl _) O0 (fun k l h1=>O0) h
 have HST:=U h
 have hnz:(0:Int)<=(n:Int):=O0
 clear h hE hcap
 go_enter Tryz.func60,Tryz.ntmps60
 go_wp2_with fail
 refine(HL.out _).mono ?_
 rintro e w1 ⟨k,hk,rfl,rfl⟩
 have HK:=U hk
 clear hk
 go_wp2_with fail
 refine(HP.out _ k HK.out HST.out).mono ?_
 rintro e w2 ⟨⟨v,rfl⟩,g,hst,hmx,hsr⟩
 have HS:=U hst;have HM:=U hmx;have HR:=U hsr
 clear hst hmx hsr
 go_wp2_with fail
 refine bodyPost_end (results_none rfl _ _ _) rfl ?_
 exact⟨⟨_,rfl⟩,g,HS.out,HM.out,HR.out⟩
end Ts
end Go.Proofs.YtaahfiopdoinkaaGreat
namespace Go.Proofs.YtaahfiopdoinkaaGreat
namespace Ts
open Ta (RF rfL PMap code kfX Xj DN FE Gc OR Pm Gu SP Lk Lj)
open Hi (XM HM Fa CIn)
theorem Uq (key : RF -> Nat) : ∀ (ol gl : List RF), gl.Pairwise (fun a b => key a < key b) -> ol.Pairwise (fun a b => key a < key b) -> (∀ x ∈ gl, x ∈ ol) -> gl.length = ol.length -> gl = ol
 | [],gl,_,_,_,h=>List.eq_nil_of_length_eq_zero h
 | b::t',[],_,_,_,h=>by simp at h
 | b::t',a::t,hg,ho,hs,hl=>by
  obtain⟨ha,ht⟩:=List.pairwise_cons.1 hg
  obtain⟨hb,ht'⟩:=List.pairwise_cons.1 ho
  have hba:key b<=key a:=by
   rcases List.mem_cons.1 (hs a List.mem_cons_self) with e|e
   ·rw[e];exact Nat.le_refl _
   ·exact Nat.le_of_lt (hb a e)
  have e:=Uq key t' t ht ht' (fun y hy=>by
   rcases List.mem_cons.1 (hs y (List.mem_cons_of_mem _ hy)) with e|e
   ·have:=ha y hy;rw[e] at this;omega
   ·exact e) (by simpa using hl)
  subst e
  rcases List.mem_cons.1 (hs a List.mem_cons_self) with e|e
  ·rw[e]
  ·have:=ha a e;omega
def at_ (rs:List RF)(i:Nat):RF:=(rs[i]?).getD ⟨⟨#[]⟩,0,0,0⟩
theorem UW (rs:List RF)(i:Nat)(h:i<rs.length):at_ rs i=rs[i]:=by unfold at_;rw[List.getElem?_eq_getElem h];rfl
theorem Yh {x:XM}(rs:List RF)(hl:rs.Pairwise fun a b=>kfX x a<kfX x b)(hK:∀r∈rs,kfX x r<x.flows.length*18446744073709551616)(hi:∀r∈rs,r.id<18446744073709551616/\r.flow.size<=maxLen)(hn:rs.length<=1000000000000):Gc x.flows rs (DN rs):=by
 obtain⟨hp,hs⟩:=FE (K:=x.flows.length*18446744073709551616) (kf:=kfX x) rs hK hl
 refine⟨hp.length_eq.symm,fun W A c pb nn base hm hpb hz ho=> ?_⟩
 rcases ho.2 with ⟨e,h0⟩|⟨r,cp,cur,e,q2,q3,q4,q5,q6,q7⟩
 ·have hnil : rs = [] := List.eq_nil_of_length_eq_zero h0
  subst hnil
  exact(OR x.flows [] O3).2 W A c pb nn base hm hpb hz ho
 ·cases e
  obtain⟨hcell,hfz,hlt,hge⟩:=Fa ho
  obtain⟨K,hKK⟩:=Rv (x.flows.length*18446744073709551616)
  rw[<-hKK] at hs hK
  have hE:Env base r rs.length W pb (code K (kfX x)) (fun a=>(a.id<18446744073709551616/\a.flow.size<=maxLen)/\kfX x a<K):=⟨fun W' a b hb ha hbb=>by
   have h1:=Lk a.flow b.flow a.id b.id a.at' b.at' a.n b.n x.flows pb nn W' (hm.keep (hb.block pb hpb)) ha.1.2 hbb.1.2
   have hk:Ta.or3 (Lv.Fp a.at' b.at') (Nm.Ot ((Hi.Dr x.flows a.flow).getD 0:Nat) ((Hi.Dr x.flows b.flow).getD 0:Nat)) (Lv.Fp a.id b.id)=Lv.Fp (code K (kfX x) a) (code K (kfX x) b):=Lj (K:=K) (M:=18446744073709551616) ha.2 hbb.2 ha.1.1 hbb.1.1
   rw[hk] at h1
   exact h1,hn⟩
  have hS:St base r rs.length W (code K (kfX x)) (fun a=>(a.id<18446744073709551616/\a.flow.size<=maxLen)/\kfX x a<K) W (at_ rs):=by
   refine⟨⟨hlt,hge,fun i hi q hq=> ?_,fun o _=>hfz o⟩,Below.refl _ _,fun i hi'=> ?_,fun i j h1 h2 h3=> ?_⟩
   ·rw[hcell _ O0,SP rs i q hi hq,UW rs i hi]
   ·rw[UW rs i hi'];exact⟨hi _ (List.getElem_mem hi'),hK _ (List.getElem_mem hi')⟩
   ·rw [UW rs i h1, UW rs j h2] at h3
    have e:kfX x rs[i]=kfX x rs[j]:=by
     unfold code at h3
     have:=congrArg (· % K) h3
     simp only[Nat.mul_add_mod_self_right] at this
     rwa [Nat.mod_eq_of_lt (hK _ (List.getElem_mem h1)),Nat.mod_eq_of_lt (hK _ (List.getElem_mem h2))] at this
    rcases Nat.lt_trichotomy i j with z|z|z
    ·have:=List.pairwise_iff_getElem.1 hl i j h1 h2 z;omega
    ·exact z
    ·have:=List.pairwise_iff_getElem.1 hl j i h2 h1 z;omega
  refine(LU hE c ⟨q4,q5⟩ hS).mono ?_
  rintro e w' ⟨hv,g,hst,hmx,hsr⟩
  refine⟨hv,hst.below,?_⟩
  have hgl:(List.range rs.length).map g=DN rs:=by
   refine Uq (code K (kfX x)) _ _ ?_ hs (fun y hy=> ?_) (by simp[hp.length_eq])
   ·refine List.pairwise_iff_getElem.2 fun i j h1 h2 h3 => ?_
    simp only[List.length_map,List.length_range] at h1 h2
    simp only[List.getElem_map,List.getElem_range]
    exact hsr i j (Nat.zero_le _) h3 h2
   ·obtain ⟨i, hi', rfl⟩ := List.mem_map.1 hy
    have hi2:=List.mem_range.1 hi'
    obtain⟨l,-,l2,l3⟩:=hmx.in_ (Nat.zero_le i) hi2
    rw[l3,UW rs l l2]
    exact hp.mem_iff.1 (List.getElem_mem l2)
  have hlen:(DN rs).length=rs.length:=hp.length_eq.symm
  refine⟨by rw[Pm,hlen],Gu _,_,_,rfl,q4,q5,fun h0=>⟨r,0,rfl,hst.row.lt,fun p v hv=> ?_⟩⟩
  have hlp:=(List.getElem?_eq_some_iff.1 hv).1
  rw[Pm,hlen] at hlp
  have e:p=p/4*4+p%4:=O0
  have h4:p/4<(DN rs).length:=O0
  rw[e,SP _ _ _ h4 O0] at hv
  rw[Nat.zero_add,e,hst.row.cell (p/4) O0 (p%4) O0, <-hv]
  have eg:(DN rs)[p/4]=g (p/4):=by
   have h5:(DN rs)[p/4]?=((List.range rs.length).map g)[p/4]?:=by rw[hgl]
   rw[List.getElem?_eq_getElem h4,List.getElem?_eq_getElem (by simp;omega)] at h5
   simpa using Option.some.inj h5
  rw[eg]
end Ts
namespace Ta
open _root_.Go.Proofs.YtaahfiopdoinkaaGreat.Nm (Dl De)
open Vt (Da)
open Cn (BT)
open Hi (HM XM RIx XGood Gh Dy FY FC CIn DC Fa Dq)
open Cm (rowOf)
attribute [local go_sem] Oper.semAt_some
variable {w w' : World}
theorem Lx (l:List BT):VS (Gh l):=by
 have h:∀(l:List BT) (x:XM),VS x->VS (l.foldl (fun x b=>(Dy x b).2) x):=by
  intro l
  induction l with
  | nil=>intro x hx;exact hx
  | cons b t ih=>intro x hx;exact ih _ (Lz hx b)
 exact h l _ Ly
theorem flows_ok {x:XM}{uA uF:Value}(h:RIx w x uA uF):∀g∈x.flows,g.flow.size<=maxLen:=fun g hg=>by
 obtain⟨xs,-,hc⟩:=h.flows
 obtain⟨i,hi,rfl⟩:=List.getElem_of_mem hg
 exact(hc.2 i hi).1
section
variable {x : XM} {T N : Nat}
theorem Uk (g:XGood x T N):∀h∈x.flows,h.s.tasks.length<=T+1:=fun h hh=>Nat.le_trans (FY (g.good h hh).fine) (Nat.succ_le_succ (g.good h hh).tot)
theorem Sm (g:XGood x T N):∀h∈x.flows,h.s.timers.length<=T+1:=fun h hh=>Nat.le_trans (FC (g.good h hh).fine) (Nat.succ_le_succ (g.good h hh).tot)
theorem Ur (g:XGood x T N)(hT:T<=1000000000000000000)(hfl:∀h∈x.flows,h.flow.size<=maxLen)(hTN:x.flows.length*(T+1)<=1000000000000)(fl:Bool)(now:Nat):Gc x.flows (x.flows.flatMap (refsOf fl now)) (DP fl now x):=
 Ts.Yh _ (Po g hT fl now).1 (Po g hT fl now).2 (fun r hr=>by
  obtain⟨h,hh,hm⟩:=List.mem_flatMap.1 hr
  obtain⟨h1,t,ht,h2,-⟩:=Ox hm
  exact⟨by rw[h2];exact(Ob g hT hh).1 t ht,by rw[h1];exact hfl h hh⟩)
  (Nat.le_trans (Ge fun h hh=>Nat.le_trans (Og fl now h) (Uk g h hh)) hTN)
theorem LV (g:XGood x T N)(hT:T<=1000000000000000000)(hfl:∀h∈x.flows,h.flow.size<=maxLen)(hTN:x.flows.length*(T+1)<=1000000000000)(now:Nat):Gc x.flows (x.flows.flatMap (DX now)) (Pc now x):=
 Ts.Yh _ (Sc g hT now).1 (Sc g hT now).2 (fun r hr=>by
  obtain⟨h,hh,hm⟩:=List.mem_flatMap.1 hr
  obtain⟨h1,-,ht,-⟩:=Pt hm
  exact⟨(Ob g hT hh).2 _ ht,by rw[h1];exact hfl h hh⟩)
  (Nat.le_trans (Ge fun h hh=>Nat.le_trans (Sd now h) (Sm g h hh)) hTN)
theorem XW (g:XGood x T N)(fl:Bool)(now:Nat):(DP fl now x).length<=x.flows.length*(T+1):=by
 unfold DP;rw[FF]
 exact Ge fun h hh=>Nat.le_trans (Og fl now h) (Uk g h hh)
theorem NU (g:XGood x T N)(now:Nat):(Pc now x).length<=x.flows.length*(T+1):=by
 unfold Pc;rw[FF]
 exact Ge fun h hh=>Nat.le_trans (Sd now h) (Sm g h hh)
end
open Vt (VT Rep)
open Ev (EV Dj Db Dn zeroT take_drop tk ap rd1 rd2 Dg)
open Cm (EvsIn)
open Cn (BtsIn Vs Dw Gv)
open Hi (IBox XAt XAdd FB FU Fo Oe LIn Xp FW Ds Ff Df tot SU Chg Gz On PF)
attribute [local go_sem] Oper.semAt_some
variable {E Z : Nat -> Prop} {w w' w0 : World} {xb : Nat} {x : XM}
theorem KT {l : List BT} (hl : LIn l) : ∀ j, j <= l.length -> Vn (Gh (l.take j)) /\ (Gh (l.take j)).clock <= 9223372036854775807
 | 0,_=>⟨by rw[List.take_zero];exact xinv_new,by rw[List.take_zero];decide⟩
 | n+1,h=>by
  obtain⟨h1,h2⟩:=KT hl n O0
  rw[Oe l n O0]
  refine⟨Uc (FW hl n O0) h1 _,?_⟩
  by_cases hc:(Dy (Gh (l.take n)) l[n]).1=0
  ·obtain ⟨ha, hm, hv, hk⟩ := FB hc
   unfold XM.clock;rw[ha,Fo]
   exact Nat.max_le.2 ⟨h2,(Uf hv).2.2⟩
  ·rw[FU hc];exact h2
def JT (k:Int)(id:Nat)(n:Int)(a:Nat):Array Value:= #[.int .i64 k,.int .u64 (id:Nat),.int .i64 n,.int .u64 (a:Nat),.string ⟨#[]⟩,.string ⟨#[]⟩,.int .i64 0,.int .i64 0,.float .f64 0,.string ⟨#[]⟩,.slice none 0 0]
def Xl (k:Int)(id:Nat)(n:Int)(a:Nat):EV:=⟨k,id,n,a,⟨#[]⟩,⟨#[]⟩,zeroT⟩
theorem one_in (k:Int)(id:Nat)(n:Int)(a:Nat)(hf:Dj (Xl k id n a))(w:World)(g:Nat)(h:w.heap[g]?=some (.cells (JT k id n a) 61 (0,0))):EvsIn w (some ⟨g,0,none⟩) 1 [Xl k id n a]:=
 ⟨O3, by simp only [maxLen]; omega, fun _ => ⟨g, 0, rfl, (Array.getElem?_eq_some_iff.1 h).1, fun i hi => by
  have hr:Rep w 0 0 zeroT (Dn 0 0 0 ⟨#[]⟩ none 0 0):=Rep.leaf ⟨O0,O0,O0,O0,O0,O1,O1⟩
  obtain rfl:i=0:=by simp at hi;omega
  refine⟨0,0,0,0,0,⟨#[]⟩,none,0,0,hf,hr,Nat.zero_le _,fun q hq=> ?_⟩
  rcases (by omega:q=0\/q=1\/q=2\/q=3\/q=4\/q=5\/q=6\/q=7\/q=8\/q=9\/q=10) with rfl|rfl|rfl|rfl|rfl|rfl|rfl|rfl|rfl|rfl|rfl<;>(simp only[World.cell?,h];rfl)⟩⟩
theorem KW (k:Int)(id:Nat)(n:Int)(a:Nat):∀i (hi:i < [Xl k id n a].length),Gv [Xl k id n a][i]=true:=fun i hi=>by
 obtain rfl:i=0:=by simp at hi;omega
 show Gv (Xl 0 0 0 0)=true
 unfold Gv Xl
 simp only[VT.few,zeroT,Vt.FH,Vt.OS,Vt.Dz]
 decide
theorem one_ok (k:Int)(id:Nat)(n:Int)(a:Nat)(hk:0<=k/\k<=100)(hi:id<18446744073709551616)(hn : -9223372036854775808<=n/\n<=9223372036854775807)(ha:a<18446744073709551616):Dj (Xl k id n a):=
 ⟨by show _<=k;omega,by show k<=_;omega,hi,hn.1,hn.2,ha,Nat.zero_le _,Nat.zero_le _⟩
theorem JM {now:Nat}(h:DP false now x= []):Gc x.flows (x.flows.flatMap (refsOf false now)) []:=by
 have e:x.flows.flatMap (refsOf false now)= []:=List.eq_nil_of_length_eq_zero (by have q:=congrArg List.length h;unfold DP at q;rwa [FF] at q)
 rw[e];exact OR _ _ O3
theorem due_none {now:Nat}(h:Pc now x= []):Gc x.flows (x.flows.flatMap (DX now)) []:=by
 have e:x.flows.flatMap (DX now)= []:=List.eq_nil_of_length_eq_zero (by have q:=congrArg List.length h;unfold Pc at q;rwa [FF] at q)
 rw[e];exact OR _ _ O3
theorem Yn {now T N c0 j:Nat}{refs:List RF}(h:Kz now T N refs c0 j x)(hT:T+j<=1000000000000000000)(hN:N+j<=1000000000)(hj:j<refs.length):refs[j].id<18446744073709551616/\refs[j].flow.size<=maxLen/\0<=refs[j].n/\refs[j].n<=2147483647:=by
 obtain⟨i,hi,hf,t,ht,e1,e2,-⟩:=h.rest refs[j] (by rw[List.drop_eq_getElem_cons hj];exact List.mem_cons_self)
 have hI:=h.inv _ (List.getElem_mem hi)
 have h0:=hI.s.n0 t ht
 have hl:=(h.good.good _ (List.getElem_mem hi)).len
 have hid:=(Ob h.good hT (List.getElem_mem hi)).1 t ht
 have hsh:=hI.short
 refine⟨by rw[<-e1];exact hid,by rw[<-hf];simp only[maxLen];omega,O0,O0⟩
theorem YQ {now T N c0 j:Nat}{refs:List RF}(h:Rr now T N refs c0 j x)(hT:T+j<=1000000000000000000)(hj:j<refs.length):refs[j].id<18446744073709551616/\refs[j].flow.size<=maxLen:=by
 obtain⟨i,hi,hf,t,ht,e1,-⟩:=h.rest refs[j] (by rw[List.drop_eq_getElem_cons hj];exact List.mem_cons_self)
 have hid:=(Ob h.good hT (List.getElem_mem hi)).2 t ht
 have hsh:=(h.inv _ (List.getElem_mem hi)).short
 exact⟨by rw[<-e1];exact hid,by rw[<-hf];simp only[maxLen];omega⟩
structure LF (E : Nat -> Prop) (w0 w : World) (xb : Nat) (x : XM) (A1 A2 : Option Addr) (c1 c2 n1 n2 : Nat) (r1 r2 : List RF) : Prop where
 ex:∃Z,XAt E w xb Z x/\∀c,Z c->w0.heap.size<=c
 bel:Below w0.heap.size w0 w
 e1:0<n1->∀r,rowOf A1=some r->E r
 e2:0<n2->∀r,rowOf A2=some r->E r
 i1:CIn w (.slice A1 n1 c1) n1 4 (r1.flatMap rfL)
 i2:CIn w (.slice A2 n2 c2) n2 4 (r2.flatMap rfL)
variable {A1 A2 : Option Addr} {c1 c2 n1 n2 : Nat} {r1 r2 : List RF}
theorem LF.later (h:LF E w0 w xb x A1 A2 c1 c2 n1 n2 r1 r2)(hb:Below w.heap.size w w'):LF E w0 w' xb x A1 A2 c1 c2 n1 n2 r1 r2:=by
 obtain⟨⟨Z,H,hz⟩,h2,h3,h4,h5,h6⟩:=h
 exact⟨⟨Z,H.later hb,hz⟩,h2.trans (hb.mono h2.size),h3,h4,h5.later hb,h6.later hb⟩
theorem YY {A:Option Addr}{n c k:Nat}{xs:List Value}(h:CIn w (.slice A n c) n k xs)(hk:0<n->∀r,rowOf A=some r->w'.heap[r]?=w.heap[r]?)(hz:w.heap.size<=w'.heap.size):CIn w' (.slice A n c) n k xs:=by
 obtain⟨h1,h2,A',c',h3,h4,h5,h6⟩:=h
 cases h3
 refine⟨h1,h2,_,_,rfl,h4,h5,fun hp=> ?_⟩
 obtain⟨b,off,q1,q2,q3⟩:=h6 hp
 subst q1
 exact⟨b,off,rfl,Nat.lt_of_lt_of_le q2 hz,fun p y hy=>(World.cell?_of_block (a:=⟨b,off+p,none⟩) (hk hp b rfl)).trans (q3 p y hy)⟩
theorem LF.added (h:LF E w0 w xb x A1 A2 c1 c2 n1 n2 r1 r2)(H:XAt E w xb Z x)(hz:∀c,Z c->w0.heap.size<=c){b:BT}{r:Ending}(hx:XAdd E w xb Z x b r w'):LF E w0 w' xb (Dy x b).2 A1 A2 c1 c2 n1 n2 r1 r2:=by
 obtain⟨-,hc,hE,Z',H',hz'⟩:=hx
 refine⟨⟨Z',H',fun c q=> ?_⟩,h.bel.trans (hc.below h.bel.size fun c q=>hz c q),h.e1,h.e2,YY h.i1 (fun hp r hr=>hE r (h.e1 hp r hr)) hc.size,YY h.i2 (fun hp r hr=>hE r (h.e2 hp r hr)) hc.size⟩
 rcases hz' c q with e|e
 ·exact hz c e
 ·exact Nat.le_trans h.bel.size e
theorem LF.start (H:XAt E w xb Z x)(hz:∀c,Z c->w0.heap.size<=c)(hb0:Below w0.heap.size w0 w)(hb:Below w.heap.size w w')(i1:CIn w' (.slice A1 n1 c1) n1 4 (r1.flatMap rfL))(i2:CIn w' (.slice A2 n2 c2) n2 4 (r2.flatMap rfL))(f1:∀r,rowOf A1=some r->w.heap.size<=r)(f2:∀r,rowOf A2=some r->w.heap.size<=r) :
  LF (fun c=>(rowOf A1=some c\/rowOf A2=some c)/\c<w'.heap.size) w0 w' xb x A1 A2 c1 c2 n1 n2 r1 r2:=by
 have lt:∀{A:Option Addr} {n c:Nat} {rs:List RF},CIn w' (.slice A n c) n 4 (rs.flatMap rfL)->0<n->∀r,rowOf A=some r->r<w'.heap.size:=fun {A n c rs} h h0 r hr=>by
  obtain⟨-,-,A',c',e1,-,-,h6⟩:=h
  cases e1
  obtain⟨b,off,q1,q2,-⟩:=h6 h0
  subst q1
  cases hr
  exact q2
 obtain⟨Z',H',hz'⟩:=H.step (E':=fun c=>(rowOf A1=some c\/rowOf A2=some c)/\c<w'.heap.size) hb (fun c q=> .inr (q.1.elim (f1 c) (f2 c))) (fun c q=>q.2)
 exact⟨⟨Z',H',fun c q=>(hz' c q).elim (hz c) fun e=>Nat.le_trans hb0.size e⟩,hb0.trans (hb.mono hb0.size),fun hp r hr=>⟨.inl hr,lt i1 hp r hr⟩,fun hp r hr=>⟨.inr hr,lt i2 hp r hr⟩,i1,i2⟩
attribute [local go_sem] Oper.semAt_some
theorem min63 (s now:Nat)(h:now=min s 9223372036854775807):(if (9223372036854775807:Int)<(s:Int) then (9223372036854775807:Int) else (s:Int))=(now:Int)/\(if (s:Int)<(9223372036854775807:Int) then (s:Int) else (9223372036854775807:Int))=(now:Int)/\now<=9223372036854775807/\now<=s/\min (s:Int) 9223372036854775807=(now:Int)/\∀k:Nat,k<=s->k<=9223372036854775807->k<=now:=by
 refine⟨?_,?_,O0,O0,O0,fun k h1 h2=>O0⟩<;>(split<;>omega)
theorem sum63 (k0 more s:Nat)(hs:s=k0+more)(h1:k0<=9223372036854775807)(h2:more<=65535):IntKind.u64.wrap (more:Int)=(more:Int)/\IntKind.u64.wrap ((k0:Int)+(more:Int))=(s:Int):=by
 rw[IntKind.wrap_u64,IntKind.wrap_u64];constructor<;>omega
theorem M726 (h:p:=by
 have x0:W1.cell? ⟨g1,0,none⟩=some (.string f):=by simp[World.cell?,hx1]
 have x1:W1.cell? ⟨g1,1,none⟩=some (.int .u64 (id:Nat)):=by simp[World.cell?,hx1]
 have x2:W1.cell? ⟨g1,2,none⟩=some (.int .i64 m):=by simp[World.cell?,hx1]
 exact Y726):p:=h
theorem M769 (h:p:=by
 rw[<-hW1.out, <-hg1.out]
 clear y0 y1 y2 y3
 go_wp2_with fail
 rw[<-hW3.out, <-hg3.out]
 refine HCC.out.mono ?_
 rintro r w5 hq
 have HL5:=U (HLX.out _ _ hq)
 obtain⟨rfl,-⟩:=hq
 rw[HST.out.1]
 clear HCC HLX x0 x1 x2
 go_wp2_with fail
 exact Y769):p:=h
theorem Q771.Y769 (h:p:=by
 go_roundw
 case rel=>exact⟨j+1,_,by go_num,O0,HST.out.2.1,fun f id=>(HOD.out f id).trans (HST.out.2.2 f id),HL5.out⟩
 case measure=>(simp[intOf];try omega)):p:=h
theorem Q727.Y726 (h:p:=by
 unfold JT at hW3
 subst hA
 have HBL:=U hbl
 clear hr hrj hst hfd hbin H' hz' hb1 hx1 hb3 hx3 hev HC hbl
 replace hW1:=U hW1;replace hg1:=U hg1;replace hW3:=U hW3;replace hg3:=U hg3
 go_upto_region 11 with fail
 open Q771 in exact M769):p:=h
theorem Q643.Y642 (h:p:=by
 have hx3:W3.heap[g3]?=some (.cells (JT 2 id m now) 61 (0,0)):=by rw[hW3,hg3];exact heap_alloc_new _ _
 have hev : EvsIn (Ds Z' W3) (some ⟨g3, 0, none⟩) 1 [Xl 2 id m now] := one_in 2 id m now (one_ok 2 id m now O1 hfd.1 (by have := hfd.2.2; omega) (by have := HNW.out; omega)) _ _ (by
  rw[Ff (fun q=>by have:=H'.zlt q;have:=hb1.size;omega)]
  exact hx3)
 have HC:=U (Gz (H'.later hb3) HINV.out.good (PW now ⟨f,id,m,at'⟩) (some ⟨g3,0,none⟩) 1 hev hbin (by show (T+j)+1<=_;omega) O0 hfd.2.1 (by show now<_;have:=HNW.out;omega) (by have:=HINV.out.clk;have:=HNW.out;omega) (fun hv=>On (by show 1<=_;decide) (KW 2 id m now) hv))
 have HLX:=U fun(r:Ending) (w':World) (q:XAdd E0 W3 xb Z' x' (PW now ⟨f,id,m,at'⟩) r w')=>(HLF.out.later hb3).added (H'.later hb3) hz' q
 have HCC:Hid (Calls Tryz.prog 20 #[.pointer (some ⟨xb,0,none⟩),.agg #[.string f,.int .u64 (now:Nat),.slice (some ⟨g3,0,none⟩) 1 1]] W3 (XAdd E0 W3 xb Z' x' (PW now ⟨f,id,m,at'⟩))):=U HC.out
 open Q727 in exact M726):p:=h
theorem Q770.Y769 (h:p:=by
 go_roundw
 case rel=>exact⟨j+1,_,by go_num,O0,HST.out.2,HL5.out⟩
 case measure=>(simp[intOf];try omega)):p:=h
theorem Q728.Y726 (h:p:=by
 unfold JT at hW3
 rw[show ((0:Nat):Int)=0 from rfl] at hW3
 subst hA
 have HBL:=U hbl
 clear hr hrj hst hfd hbin H' hz' hb1 hx1 hb3 hx3 hev HC hbl
 replace hW1:=U hW1;replace hg1:=U hg1;replace hW3:=U hW3;replace hg3:=U hg3
 go_upto_region 17 with fail
 open Q770 in exact M769):p:=h
theorem Q644.Y642 (h:p:=by
 have hx3:W3.heap[g3]?=some (.cells (JT 5 id 0 0) 61 (0,0)):=by rw[hW3,hg3];exact heap_alloc_new _ _
 have hev : EvsIn (Ds Z' W3) (some ⟨g3, 0, none⟩) 1 [Xl 5 id 0 0] := one_in 5 id 0 0 (one_ok 5 id 0 0 O1 hfd.1 O1 O1) _ _ (by
  rw[Ff (fun q=>by have:=H'.zlt q;have:=hb1.size;omega)]
  exact hx3)
 have HC:=U (Gz (H'.later hb3) HINV.out.good (Oq now ⟨f,id,m,at'⟩) (some ⟨g3,0,none⟩) 1 hev hbin (by show (T+n1+j)+1<=_;omega) O0 hfd.2 (by show now<_;have:=HNW.out;omega) (by have:=HINV.out.clk;have:=HNW.out;omega) (fun hv=>On (by show 1<=_;decide) (KW 5 id 0 0) hv))
 have HLX:=U fun(r:Ending) (w':World) (q:XAdd E0 W3 xb Z' x' (Oq now ⟨f,id,m,at'⟩) r w')=>(HLF.out.later hb3).added (H'.later hb3) hz' q
 have HCC:Hid (Calls Tryz.prog 20 #[.pointer (some ⟨xb,0,none⟩),.agg #[.string f,.int .u64 (now:Nat),.slice (some ⟨g3,0,none⟩) 1 1]] W3 (XAdd E0 W3 xb Z' x' (Oq now ⟨f,id,m,at'⟩))):=U HC.out
 open Q728 in exact M726):p:=h
theorem M642 (h:p:=by
 obtain⟨g3,hg3⟩:∃g,g=W1.heap.size:=⟨_,rfl⟩
 have hb1:Below wr.heap.size wr W1:=by rw[hW1];exact Ru
 have hx1:W1.heap[g1]?=some (.cells #[.string f,.int .u64 (id:Nat),.int .i64 m,.int .u64 (at':Nat)] 57 (0,0)):=by rw[hW1,hg1];exact heap_alloc_new _ _
 have hb3:Below wr.heap.size wr W3:=by rw[hW3];exact hb1.alloc hb1.size _
 exact Y642):p:=h
theorem Q696.Y695 (h:p:=by
 obtain⟨W3,hW3⟩:=Rv (W1.alloc (.cells (JT 2 id m now) 61))
 open Q643 in exact M642):p:=h
theorem Q697.Y695 (h:p:=by
 obtain⟨W3,hW3⟩:=Rv (W1.alloc (.cells (JT 5 id 0 0) 61))
 open Q644 in exact M642):p:=h
theorem M695 (h:p:=by
 rw[hrj] at hst hfd hbin
 dsimp only at hfd
 have HST:=U hst
 obtain⟨⟨Z',H',hz'⟩,-⟩:=HLF.out
 obtain⟨W1,hW1⟩:=Rv (wr.alloc (.cells #[.string f,.int .u64 (id:Nat),.int .i64 m,.int .u64 (at':Nat)] 57))
 obtain⟨g1,hg1⟩:∃g,g=wr.heap.size:=⟨_,rfl⟩
 exact Y695):p:=h
theorem Jt (bl:List BT)(B:Option Addr)(bc:Nat)(more:Nat)(hmore:more<=65535)(w0:World)(hB:BtsIn w0 B bc bl)(hlen:∀b∈bl,b.es.length<=2097152) :
  Calls Tryz.prog 4 #[.slice B bl.length bc,.int .u16 (more:Nat)] w0 fun r w'=>r= .returned (.bool true)/\Below w0.heap.size w0 w':=by
 have HBLD:=U (NX bl B bc w0 hB hlen)
 have HA:=U fun W=>Jv W
 have HLEN:=U hlen
 clear hB hlen
 go_enter Tryz.func4,Tryz.ntmps4
 go_wp2_with fail
 refine HBLD.out.mono ?_
 rintro r w1 ⟨hb1,⟨xb,rfl⟩|⟨hfew,xb,g,g3,Z,uA,uF,rfl,HX,hZ,hri⟩⟩
 ·have HB1 := U hb1
  clear hb1
  go_wp2_with fail
  refine(HA.out _).mono ?_
  rintro r w3 ⟨rfl,hb3⟩
  have HB3:Hid (Below w0.heap.size w0 w3):=U ((HB1.out.alloc HB1.out.size _).trans (hb3.mono (by simp;exact Nat.le_succ_of_le HB1.out.size)))
  clear hb3
  go_wp2_with fail
  go_ret
  exact⟨rfl,HB3.out⟩
 have hli:=Xp hfew fun b hb=>by have:=HLEN.out b hb;omega
 have hgood:=FW hli bl.length (Nat.le_refl _)
 rw[List.take_length] at hgood
 have htt:tot bl<=2097302:=by
  have:=(SU 2097152 bl HLEN.out).2 (by have:=hfew.sum;omega)
  have:=hfew.sum
  omega
 have hN60:bl.length<=60:=hli.len
 have hxi:=Lx bl
 obtain⟨T,hT⟩:=Rv (tot bl)
 obtain⟨N,hN⟩:=Rv (bl.length)
 rw[<-hT] at htt
 rw[<-hN] at hN60
 rw[<-hT, <-hN] at hgood
 obtain⟨x,hx⟩:=Rv (Gh bl)
 have hx':=hx.symm
 rw[<-hx] at HX hri hgood hxi
 have hxl:x.flows.length<=60:=Nat.le_trans hgood.len hN60
 have HT3:Hid (x.flows.length*(T+1)<=300000000000):=U (Nat.le_trans (Nat.mul_le_mul_right (T+1) hxl) O0)
 have HTN:Hid (x.flows.length*(T+1)<=1000000000000):=U (Nat.le_trans HT3.out O0)
 have hri2:=hri.leads (Df _ _)
 have HFL:=U (flows_ok hri2)
 have hT1:T<=1100000000000:=O0
 have hT2:T+1<=1000000000000000:=O0
 have hT3:T<=1000000000000000000:=O0
 have hN1:x.flows.length<=1000000:=O0
 have hN2:x.flows.length<=1000000000000:=O0
 have hri':=KT hli bl.length (Nat.le_refl _)
 rw[List.take_length,hx'] at hri'
 obtain⟨hxv,hck⟩:=hri'
 have hM:x.flows.length*(T+1)<=130000000:=Nat.le_trans (Nat.mul_le_mul_right (T+1) hxl) O0
 obtain⟨k0,hk0⟩:∃k,k=x.clock:=⟨_,rfl⟩
 obtain⟨s,hs⟩:=Rv (k0+more)
 obtain⟨now,hnow⟩:=Rv (min s 9223372036854775807)
 obtain⟨hmin,hmin2,hnw,hns,hmin3,hcl0⟩:=min63 s now hnow
 have hcl:x.clock<=now:=hcl0 _ (by rw[<-hk0,hs];exact Nat.le_add_right _ _) hck
 clear hcl0 hnow
 obtain⟨hcv,hw⟩:=sum63 k0 more s hs (by rw[hk0];exact hck) hmore
 obtain⟨r1,hr1⟩:∃r,r=DP false now x:=⟨_,rfl⟩
 obtain⟨r2,hr2⟩:∃r,r=Pc now x:=⟨_,rfl⟩
 obtain⟨n1,hn1⟩:∃n,n=r1.length:=⟨_,rfl⟩
 obtain⟨n2,hn2⟩:∃n,n=r2.length:=⟨_,rfl⟩
 have hn1a:n1<=130000000:=by rw[hn1,hr1];exact Nat.le_trans (XW hgood false now) hM
 have hn2a:n2<=130000000:=by rw[hn2,hr2];exact Nat.le_trans (NU hgood now) hM
 have hn1b:n1<=1000000000000:=O0
 have hn2b:n2<=1000000000000:=O0
 have HP1:Hid (r1.Pairwise fun a b=>¬(a.flow=b.flow/\a.id=b.id)):=U (by rw[hr1];exact UX (Po hgood hT3 false now).1 (Po hgood hT3 false now).2)
 have HP2:Hid (r2.Pairwise fun a b=>¬(a.flow=b.flow/\a.id=b.id)):=U (by rw[hr2];exact UX (Sc hgood hT3 now).1 (Sc hgood hT3 now).2)
 have HI0:Hid (Kz now T N r1 (PS now x.flows) 0 x):=U (by rw[hr1];exact JI hgood hxv hcl hxl)
 have HDO:Hid (∀r∈r2,GK now x.flows r.flow r.id):=U (by rw[hr2];exact fun r hr=>due_open hr)
 have HOD2:Hid (∀f id,GK now x.flows f id->∃r∈r2,r.flow=f/\r.id=id):=U (by rw[hr2];exact fun f id o=>open_due o)
 have HTK:=U (Uk hgood)
 have HTM:=U (Sm hgood)
 have HG:=U hgood
 have HNW:=U hnw
 obtain⟨⟨AA,cA,rfl,-,-⟩,AF,cF,rfl,-,-⟩:=hri.slices
 obtain⟨W2,hW2⟩:=Rv (w1.alloc (.cells #[.slice AA x.all.length cA,.slice AF x.flows.length cF] 27))
 obtain⟨g8,hg8⟩:∃g,g=w1.heap.size:=⟨_,rfl⟩
 have hb12:Below w1.heap.size w1 W2:=by rw[hW2];exact Ru
 have hi2:IBox W2 g8 (.slice AA x.all.length cA) (.slice AF x.flows.length cF):=by rw[hW2,hg8];exact IBox.new ..
 have HBW:Hid (Below w0.heap.size w0 W2):=U (hb1.trans (hb12.mono hb1.size))
 have HXU:=U (HX.later hb12)
 have HRU:=U (hri2.later hb12)
 have HI8:=U hi2
 have HZ:=U hZ
 have HCK:Hid (Calls Tryz.prog 13 #[.agg #[.slice AA x.all.length cA,.slice AF x.flows.length cF]] W2 fun r w'=>r= .returned (.int .u64 (k0:Nat))/\Below W2.heap.size W2 w'):=U (by rw[hk0];exact PF x _ _ W2 HRU.out)
 have HRN:=U fun W (hW:Below W2.heap.size W2 W)=>by
  have q:=Su (HXU.out.later hW) hgood hT1 hN1 HTN.out HFL.out now _ (Ur hgood hT3 HFL.out HTN.out false now)
  unfold RefsOut at q
  rw[<-hr1, <-hn1] at q
  exact q
 have HDN:=U fun W (hW:Below W2.heap.size W2 W)=>by
  have q:=Lf (HXU.out.later hW) hgood hT1 hN1 HTN.out HFL.out now _ (LV hgood hT3 HFL.out HTN.out now)
  unfold RefsOut at q
  rw[<-hr2, <-hn2] at q
  exact q
 have HRT0:=U fun W (hW:Below W2.heap.size W2 W)=>by
  have q:=Xh (.slice AA x.all.length cA) (.slice AF x.flows.length cF) x now (T+1) W (HRU.out.later hW) HTK.out HTN.out hN2 hT2
  rw[<-hr1, <-hn1] at q
  exact q
 have HRD0:=U fun W (hW:Below W2.heap.size W2 W)=>by
  have q:=rdue_any (.slice AA x.all.length cA) (.slice AF x.flows.length cF) x now (T+1) W (HRU.out.later hW) HTM.out HTN.out hN2 hT2
  rw[<-hr2, <-hn2] at q
  exact q
 obtain⟨c0,hc0⟩:∃c,c=PS now x.flows:=⟨_,rfl⟩
 rw[<-hc0] at HI0
 have hc0b:c0<=130000000:=by
  rw[hc0]
  show (x.flows.flatMap (refsOf true now)).length<=_
  exact Nat.le_trans (Ge fun h hh=>Nat.le_trans (Og true now h) (HTK.out h hh)) hM
 have HN1:=U hn1;have HN2:=U hn2
 obtain⟨nA,hnA⟩:∃n,n=x.all.length:=⟨_,rfl⟩
 clear HX hZ hri hri2 hgood hfew hli hb1 hb12 hi2 hx hx' hT hN hxi HBLD HLEN hT3 hr1 hr2 hn1 hn2 hk0 hs hxv hck hcl hM hnw hns hc0 hnA
 replace hW2:=U hW2;replace hg8:=U hg8
 obtain⟨x0,x1,-⟩:=HI8.out.cells
 go_upto_region 4 with fail
 rw[<-hW2.out, <-hg8.out]
 go_wp2_with fail
 refine HCK.out.mono ?_
 rintro e w4 ⟨rfl,hb4⟩
 have HB4:=U hb4
 clear hb4 HCK x0 x1
 go_wp2_with fail
 refine(HRN.out _ HB4.out).mono ?_
 rintro e w5 ⟨A1,k1,rfl,hb5,hin1,hf1⟩
 have HB5:Hid (Below W2.heap.size W2 w5):=U (HB4.out.trans (hb5.mono HB4.out.size))
 go_wp2_with fail
 refine(HDN.out _ HB5.out).mono ?_
 rintro e w6 ⟨A2,k2,rfl,hb6,hin2,hf2⟩
 have HB6:Hid (Below W2.heap.size W2 w6):=U (HB5.out.trans (hb6.mono HB5.out.size))
 have hls:=LF.start (HXU.out.later HB4.out) (HZ.out) (HBW.out.trans (HB4.out.mono HBW.out.size)) (hb5.trans (hb6.mono hb5.size)) (hin1.later hb6) hin2 hf1 (fun r hr=>Nat.le_trans hb5.size (hf2 r hr))
 obtain⟨E0,hE0⟩:=Rv (fun c=>(rowOf A1=some c\/rowOf A2=some c)/\c<w6.heap.size:Nat->Prop)
 rw[<-hE0] at hls
 obtain⟨u0,hu0⟩:∃u,u=w6.drew:=⟨_,rfl⟩
 have hbu:Below w6.heap.size w6 u0:=by rw[hu0];exact Da (Below.refl _ _)
 have HI1:Hid (CIn u0 (.slice A1 n1 k1) n1 4 (r1.flatMap rfL)):=U ((hin1.later hb6).later hbu)
 have HI2:Hid (CIn u0 (.slice A2 n2 k2) n2 4 (r2.flatMap rfL)):=U (hin2.later hbu)
 have HLF0:=U (hls.later hbu)
 have HB2u:Hid (Below W2.heap.size W2 u0):=U (HB6.out.trans (hbu.mono HB6.out.size))
 have HRT:=U fun W (hW:Below u0.heap.size u0 W)=>HRT0.out W (HB2u.out.trans (hW.mono HB2u.out.size))
 have HRD:=U fun W (hW:Below u0.heap.size u0 W)=>HRD0.out W (HB2u.out.trans (hW.mono HB2u.out.size))
 have HV0:Hid (Below u0.heap.size u0 u0):=U (Below.refl _ _)
 have HKS:Hid (∀W:World,Below u0.heap.size u0 W->(fun W:World=>W.cell? ⟨g8,0,none⟩=some (.slice AA x.all.length cA)/\W.cell? ⟨g8,1,none⟩=some (.slice AF x.flows.length cF)) W):=U fun W hW=>by
  obtain⟨q0,q1,-⟩:=(HI8.out.later (HB2u.out.trans (hW.mono HB2u.out.size)) HI8.out.lt).cells
  exact⟨q0,q1⟩
 clear hb5 hb6 hin1 hin2 hf1 hf2 hls hbu hE0 HRT0 HRD0 HRN HDN HB4 HB5 HB6
 go_upto_region 6 with fail
 refine wp_region_noPanic ?_
 refine wp_region_held_drew (S:=(fun W:World=>W.cell? ⟨g8,0,none⟩=some (.slice AA x.all.length cA)/\W.cell? ⟨g8,1,none⟩=some (.slice AF x.flows.length cF))) O2 ?_ (fun hHeld0=> ?_)
 ·exact M155
 rw[<-hu0] at hHeld0
 rw[<-hu0]
 replace hu0:=U hu0
 refine tk 0 rfl ?_
 refine tk 2 rfl ?_
 refine tk 3 rfl ?_
 refine rd1 1 rfl fun K hK=> ?_
 go_simp
 (with_reducible refine(Jc r1 n1 HN1.out A1 k1 _ (HI1.out.later HV0.out) hn1b).mono ?_)
 rintro e v1 ⟨B2,q2,rfl,hb,hin⟩
 have HV1:Hid (Below u0.heap.size u0 v1):=U (HV0.out.trans (hb.mono HV0.out.size))
 have HI3:=U hin
 clear hb hin HV0
 go_wp2_with fail
 refine hK.out _ _ (HKS.out _ HV1.out) (fun hHeld1=> ?_)
 clear hK K hHeld0
 try simp only[ap]
 refine rd1 4 rfl fun K hK=> ?_
 go_simp
 (with_reducible refine(HRT.out _ HV1.out).mono ?_)
 rintro e v2 ⟨v9,rfl,hb,hown⟩
 have HV2:Hid (Below u0.heap.size u0 v2):=U (HV1.out.trans (hb.mono HV1.out.size))
 obtain⟨B3,q3,rfl,-⟩:=Fb hown
 have HI4:=U (CIn.of_own hown (Gu _))
 have HI5:=U (HI3.out.later hb)
 clear hb hown HI3 HV1
 go_wp2_with fail
 refine hK.out _ _ (HKS.out _ HV2.out) (fun hHeld2=> ?_)
 clear hK K hHeld1
 try simp only[ap]
 refine rd1 5 rfl fun K hK=> ?_
 go_simp
 (with_reducible refine(Le r1 n1 HN1.out B2 B3 q2 q3 _ HI5.out HI4.out hn1b).mono ?_)
 rintro e v3 ⟨rfl,hb⟩
 have HV3:Hid (Below u0.heap.size u0 v3):=U (HV2.out.trans (hb.mono HV2.out.size))
 clear hb HI4 HI5 HV2
 go_wp2_with fail
 refine hK.out _ _ (HKS.out _ HV3.out) (fun hHeld3=> ?_)
 clear hK K hHeld2
 try simp only[ap]
 refine tk 6 rfl ?_
 refine tk 7 rfl ?_
 refine tk 8 rfl ?_
 refine tk 10 rfl ?_
 refine tk 11 rfl ?_
 refine rd1 9 rfl fun K hK=> ?_
 go_simp
 (with_reducible refine(Jc r2 n2 HN2.out A2 k2 _ (HI2.out.later HV3.out) hn2b).mono ?_)
 rintro e v4 ⟨B2,q2,rfl,hb,hin⟩
 have HV4:Hid (Below u0.heap.size u0 v4):=U (HV3.out.trans (hb.mono HV3.out.size))
 have HI3:=U hin
 clear hb hin HV3
 go_wp2_with fail
 refine hK.out _ _ (HKS.out _ HV4.out) (fun hHeld4=> ?_)
 clear hK K hHeld3
 try simp only[ap]
 refine rd1 12 rfl fun K hK=> ?_
 go_simp
 (with_reducible refine(HRD.out _ HV4.out).mono ?_)
 rintro e v5 ⟨v9,rfl,hb,hown⟩
 have HV5:Hid (Below u0.heap.size u0 v5):=U (HV4.out.trans (hb.mono HV4.out.size))
 obtain⟨B3,q3,rfl,-⟩:=Fb hown
 have HI4:=U (CIn.of_own hown (Gu _))
 have HI5:=U (HI3.out.later hb)
 clear hb hown HI3 HV4
 go_wp2_with fail
 refine hK.out _ _ (HKS.out _ HV5.out) (fun hHeld5=> ?_)
 clear hK K hHeld4
 try simp only[ap]
 refine rd1 13 rfl fun K hK=> ?_
 go_simp
 (with_reducible refine(Le r2 n2 HN2.out B2 B3 q2 q3 _ HI5.out HI4.out hn2b).mono ?_)
 rintro e v6 ⟨rfl,hb⟩
 have HV6:Hid (Below u0.heap.size u0 v6):=U (HV5.out.trans (hb.mono HV5.out.size))
 clear hb HI4 HI5 HV5
 go_wp2_with fail
 refine hK.out _ _ (HKS.out _ HV6.out) (fun hHeld6=> ?_)
 clear hK K hHeld5
 try simp only[ap]
 refine tk 14 rfl ?_
 refine tk 15 rfl ?_
 refine wpAnyH_done O2 ?_ _
 refine NoPanic.normal ?_
 clear hHeld6
 have HLF1:=U (HLF0.out.later HV6.out)
 clear HV6 HLF0 HI1 HI2 HRT HRD HKS HB2u HTK HTM HRU HXU HI8
 go_wp2_with fail
 go_loopw [54] (fun i wz=>∃(j:Nat) (x':XM),i= .int .i64 j/\j<=n1/\Kz now T N r1 c0 j x'/\(∀f id,GK now x.flows f id↔GK now x'.flows f id)/\LF E0 w0 wz xb x' A1 A2 k1 k2 n1 n2 r1 r2) (fun i _=>n1-(intOf i).toNat)
 case atStart=>exact⟨0,x,by go_num,Nat.zero_le _,HI0.out,fun _ _=>Iff.rfl,HLF1.out⟩
 case round=>
  obtain⟨j,x',rfl,hj,hinv,hod,hlf⟩:=hrel
  have HINV:=U hinv;have HOD:=U hod;have HLF:=U hlf
  clear hinv hod hlf HLF1 HI0
  by_cases hlt:j<n1
  ·have hltz : (j : Int) < (n1 : Int) := O0
   obtain⟨b,off,f,id,m,at',hA,hr,hbl,y0,y1,y2,y3⟩:=Od HLF.out.i1 HN1.out j hlt
   have hjr:j<r1.length:=by have:=HN1.out;omega
   have hrj:r1[j]=⟨f,id,m,at'⟩:=(List.getElem?_eq_some_iff.1 hr).2
   have hst:=Nh HINV.out HNW.out O0 HP1.out hjr
   have hfd:=Yn HINV.out O0 O0 hjr
   have hbin:=Ln now r1[j]
   open Q696 in exact M695
  ·have hltz : ¬ (j : Int) < (n1 : Int) := O0
   obtain rfl:j=n1:=O0
   obtain⟨hno,hemp⟩:=rinv_end HINV.out (by have:=HN1.out;omega)
   have HD0 : Hid (Rr now (T + j) (N + j) r2 (c0 + j) 0 x') := U ⟨HINV.out.good, HINV.out.inv, HINV.out.clk, HINV.out.few, hno, fun r hr => (HOD.out _ _).1 (HDO.out r (by simpa using hr)), fun f id o => by
    obtain⟨r,hr,q⟩:=HOD2.out f id ((HOD.out f id).2 o)
    exact⟨r,by simpa using hr,q⟩,HINV.out.cnt⟩
   clear hno hemp HINV HOD HDO HOD2
   obtain⟨n1,hjn⟩:=Rv (j)
   subst hjn
   go_wp2_with fail
   go_loopw [75] (fun i wz=>∃(j:Nat) (x':XM),i= .int .i64 j/\j<=n2/\Rr now (T+n1) (N+n1) r2 (c0+n1) j x'/\LF E0 w0 wz xb x' A1 A2 k1 k2 n1 n2 r1 r2) (fun i _=>n2-(intOf i).toNat)
   case atStart=>exact⟨0,x',by go_num,Nat.zero_le _,HD0.out,HLF.out⟩
   case round=>
    obtain⟨j,x',rfl,hj,hinv,hlf⟩:=hrel
    clear HLF HD0
    have HINV:=U hinv;have HLF:=U hlf
    clear hinv hlf
    by_cases hlt:j<n2
    ·have hltz : (j : Int) < (n2 : Int) := O0
     obtain⟨b,off,f,id,m,at',hA,hr,hbl,y0,y1,y2,y3⟩:=Od HLF.out.i2 HN2.out j hlt
     have hjr:j<r2.length:=by have:=HN2.out;omega
     have hrj:r2[j]=⟨f,id,m,at'⟩:=(List.getElem?_eq_some_iff.1 hr).2
     have hst:=NV HINV.out HNW.out HP2.out hjr
     have hfd:=YQ HINV.out O0 hjr
     have hbin:=Jb now r2[j]
     open Q697 in exact M695
    ·have hltz : ¬ (j : Int) < (n2 : Int) := O0
     obtain rfl:j=n2:=O0
     obtain⟨e1,e2,e3⟩:=dinv_end HINV.out (by have:=HN2.out;omega)
     obtain⟨⟨Z',H',hz'⟩,hbe,-⟩:=HLF.out
     have hfl':∀h∈x'.flows,h.flow.size<=maxLen:=fun h hh=>by have:=(HINV.out.inv h hh).short;simp only[maxLen];omega
     have hM':x'.flows.length*(T+n1+j+1)<=1000000000000:=Nat.le_trans (Nat.mul_le_mul_right _ HINV.out.few) O0
     have hN':x'.flows.length<=1000000:=Nat.le_trans HINV.out.few O0
     have HRN:=U fun W (hW:Below wr.heap.size wr W)=>Su (H'.later hW) HINV.out.good O0 hN' hM' hfl' now [] (JM e1)
     have HDN:=U fun W (hW:Below wr.heap.size wr W)=>Lf (H'.later hW) HINV.out.good O0 hN' hM' hfl' now [] (due_none e2)
     obtain⟨m3,hm3⟩:∃m,m=c0+n1:=⟨_,rfl⟩
     have HEN:=U fun W (hW:Below wr.heap.size wr W)=>by
      have q:=YJ (H'.later hW) HINV.out.good O0 hN' hM' hfl' now _ (Ur HINV.out.good O0 hfl' hM' true now)
      unfold RefsOut at q
      rw[e3, <-hm3] at q
      exact q
     have hge:(n1:Int)<=(m3:Int):=O0
     have HBE:=U hbe
     clear e1 e2 e3 H' hz' hbe hfl' hM' hN' hm3 HINV HLF
     go_wp2_with fail
     refine(HA.out _).mono ?_
     rintro r v1 ⟨rfl,hb⟩
     have HV1:Hid (Below wr.heap.size wr v1):=U hb
     clear hb
     go_wp2_with fail
     refine(HRN.out _ HV1.out).mono ?_
     rintro e v2 ⟨B1,q1,rfl,hb,-⟩
     have HV2:Hid (Below wr.heap.size wr v2):=U (HV1.out.trans (hb.mono HV1.out.size))
     simp only[List.length_nil]
     clear hb
     go_wp2_with fail
     refine(HDN.out _ HV2.out).mono ?_
     rintro e v3 ⟨B2,q2,rfl,hb,-⟩
     have HV3:Hid (Below wr.heap.size wr v3):=U (HV2.out.trans (hb.mono HV2.out.size))
     simp only[List.length_nil]
     clear hb
     go_wp2_with fail
     refine(HEN.out _ HV3.out).mono ?_
     rintro e v4 ⟨B3,q3,rfl,hb,-⟩
     have HV4:Hid (Below wr.heap.size wr v4):=U (HV3.out.trans (hb.mono HV3.out.size))
     have HBF:Hid (Below w0.heap.size w0 v4):=U (HBE.out.trans (HV4.out.mono HBE.out.size))
     clear hb
     go_wp2_with fail
     go_ret
     exact⟨rfl,HBF.out⟩
open Go.ChangeShapes Go.WideShapes Go.ChangeAt Go.Joins Go.Deep
theorem tfits_open {H : Type} {enc : TypeId × Value -> H} {base b1 : Nat} {spare : Nat -> Bool} {held : Bool} {d0 d1 : DataW H} {p0 p1 : List MemPlace} (v0 v1 : Value) (W : World)
  (o0:Value.okWide Tryz.prog W .any base 22 v0) (k0:DataW.Trod enc Tryz.prog W b1 spare held 22 v0 d0 p0)
  (o1:Value.okWide Tryz.prog W .any base 46 v1) (k1:DataW.Trod enc Tryz.prog W b1 spare held 46 v1 d1 p1) (hu:Rows.uptoSmall H [d0,d1]=true) :
  Calls Tryz.prog 4 #[v0,v1] W fun r w'=>r= .returned (.bool true)/\Below W.heap.size W w':=by
 obtain⟨bl,A,cap,rfl,hB,hl⟩:=Hi.NY v0 W o0 k0
 obtain⟨n,rfl⟩:=okWide_int Tryz.underlying46 o1
 obtain⟨fuel,hf⟩:=k1
 obtain⟨m,e1,-,w1⟩:=DataW.trod_int Tryz.underlying46 hf
 have e1 : [Value.int .u16 n]= [Value.int .u16 m]:=e1
 injection e1 with e1
 injection e1 with _ e1
 subst e1
 simp[Lit.wf,IntKind.min,IntKind.max,IntKind.bits,IntKind.signed] at w1
 obtain⟨k,hk⟩:∃k:Nat,n=(k:Nat):=⟨n.toNat,O0⟩
 subst hk
 exact Jt bl A cap k O0 W hB (hl (Hi.LW (i:=0) hu rfl))
end Ta
end Go.Proofs.YtaahfiopdoinkaaGreat
