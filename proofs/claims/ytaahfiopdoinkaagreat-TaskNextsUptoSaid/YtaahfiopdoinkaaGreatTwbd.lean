/- How references are compared: by tick, place, number. -/
import Derived.Test.YtaahfiopdoinkaaGreatTwau
import Derived.Test.YtaahfiopdoinkaaGreatTwad
import Derived.Test.YtaahfiopdoinkaaGreatTwab
import Derived.Deep.RegionHeld3
import Derived.Shelf.SlSortCmp.QuietGrown
set_option maxRecDepth 100000
set_option maxHeartbeats 8000000
variable {p : Prop}
set_option linter.unusedVariables false
set_option linter.unusedSimpArgs false
open Go.RowKit
namespace Go.Proofs.YtaahfiopdoinkaaGreat
namespace Ta
open Lv (DZ Sh)
open _root_.Go.Proofs.YtaahfiopdoinkaaGreat.Nm (GL Vb Dk)
open Hi (HM Dr)
open Vt (Da)
def or3 (x y z:Int):Int:=if x=0 then (if y=0 then z else y) else x
theorem or3_any (x y z:Int)(g:Nat)(w:World)(h0:w.cell? ⟨g,0,none⟩=some (.int .i64 x))(h1:w.cell? ⟨g,1,none⟩=some (.int .i64 y))(h2:w.cell? ⟨g,2,none⟩=some (.int .i64 z)) :
  Calls Tryz.prog 76 #[.slice (some ⟨g,0,none⟩) 3 3] w fun e w'=>e= .returned (.int .i64 (or3 x y z))/\w=w':=by
 have HC:Hid (∀k,k<3->∃v,(if k=0 then x else if k=1 then y else z)=v/\w.cell? ⟨g,k,none⟩=some (.int .i64 v)):=U fun k hk=>by
  rcases (by omega:k=0\/k=1\/k=2) with rfl|rfl|rfl
  ·exact⟨x,rfl,h0⟩
  ·exact⟨y,rfl,h1⟩
  ·exact⟨z,rfl,h2⟩
 clear h0 h1 h2
 go_enter Tryz.func76,Tryz.ntmps76
 go_wp2_with fail
 go_loopw [8] (fun i wr=>∃k:Nat,k<=3/\i= .int .i64 k/\wr=w/\(1<=k->x=0)/\(2<=k->y=0)/\(3<=k->z=0)) (fun i _=>3-(intOf i).toNat)
 case atStart=>exact⟨0,O0,rfl,rfl,O0,O0,O0⟩
 case round=>
  obtain⟨k,hk,rfl,rfl,hx,hy,hz⟩:=hrel
  have HX:=U (And.intro hx (And.intro hy hz))
  clear hx hy hz
  by_cases hlt:k<3
  ·obtain ⟨v, hv, hc⟩ := HC.out k hlt
   have HV:=U hv
   clear hv
   by_cases h:v=0
   ·subst h
    go_wp2_with fail
    go_roundw
    case rel=>exact⟨k+1,O0,by go_num,by first | rfl|trivial,fun h=>by have:=HV.out;have:=HX.out;split at * <;>omega,fun h=>by have:=HV.out;have:=HX.out;split at * <;>(try split at *)<;>omega,fun h=>by have:=HV.out;have:=HX.out;split at * <;>(try split at *)<;>omega⟩
    case measure=>simp[intOf];omega
   ·have hb : (v != 0) = true := by simp [h]
    have HR:Hid (or3 x y z=v):=U (by
     have:=HV.out;have:=HX.out
     unfold or3
     rcases (by omega:k=0\/k=1\/k=2) with rfl|rfl|rfl<;>simp_all)
    go_wp2_with fail
    go_ret
    exact⟨Dk HR.out.symm,rfl⟩
  ·obtain rfl : k = 3 := O0
   have HR:Hid (or3 x y z=0):=U (by
    have:=HX.out
    unfold or3
    simp_all)
   go_wp2_with fail
   go_ret
   exact⟨Dk HR.out.symm,rfl⟩
theorem XG (fa fb:ByteArray)(ia ib ta tb:Nat)(na nb:Int)(l:List HM)(mb nn:Nat)(w:World)(hm:PMap w mb nn l)(ha:fa.size<=maxLen)(hb:fb.size<=maxLen) :
  Calls Tryz.prog 46 #[.map (some mb),.agg #[.string fa,.int .u64 (ia:Nat),.int .i64 na,.int .u64 (ta:Nat)],.agg #[.string fb,.int .u64 (ib:Nat),.int .i64 nb,.int .u64 (tb:Nat)]] w fun e w'=>e= .returned (.int .i64 (or3 (DZ ta tb) (GL ((Dr l fa).getD 0:Nat) ((Dr l fb).getD 0:Nat)) (DZ ia ib)))/\∃q os,w'=Go.Sort.grow (w.drewN q) os:=by
 obtain⟨W1,hW1⟩:=Rm (w.alloc (.cells #[.string fa,.int .u64 (ia:Nat),.int .i64 na,.int .u64 (ta:Nat)] 57))
 obtain⟨W2,hW2⟩:=Rm (W1.alloc (.cells #[.string fb,.int .u64 (ib:Nat),.int .i64 nb,.int .u64 (tb:Nat)] 57))
 have hz1:W1.heap.size=w.heap.size+1:=by rw[hW1];simp
 have hz2:W2.heap.size=w.heap.size+2:=by rw[hW2];simp[hz1]
 have hb1:Below w.heap.size w W1:=by rw[hW1];exact Rl
 have hb12:Below W1.heap.size W1 W2:=by rw[hW2];exact Rl
 have hx1:W2.heap[w.heap.size]?=some (.cells #[.string fa,.int .u64 (ia:Nat),.int .i64 na,.int .u64 (ta:Nat)] 57 (0,0)):=(hb12.block _ O0).trans (by rw[hW1];exact heap_alloc_new _ _)
 have hx2:W2.heap[w.heap.size+1]?=some (.cells #[.string fb,.int .u64 (ib:Nat),.int .i64 nb,.int .u64 (tb:Nat)] 57 (0,0)):=by rw[hW2, <-hz1];exact heap_alloc_new _ _
 obtain⟨g,hg⟩:=Rm (w.heap.size)
 obtain⟨g',hg'⟩:∃g,g=w.heap.size+1:=⟨_,rfl⟩
 rw[<-hg] at hx1
 rw[<-hg'] at hx2
 have hm2:PMap W2 mb nn l:=hm.keep ((hb12.block _ (by have:=hm.lt;omega)).trans (hb1.block _ hm.lt))
 obtain⟨pa,hpa⟩:∃p,p=(Dr l fa).getD 0:=⟨_,rfl⟩
 obtain⟨pb,hpb⟩:∃p,p=(Dr l fb).getD 0:=⟨_,rfl⟩
 rw[<-hpa, <-hpb]
 have HS:Hid (∀W',Below W2.heap.size W2 W'->(fun W':World=>Below W2.heap.size W2 W'/\W'.cell? ⟨g,0,none⟩=some (.string fa)/\W'.cell? ⟨g,1,none⟩=some (.int .u64 (ia:Nat))/\W'.cell? ⟨g,3,none⟩=some (.int .u64 (ta:Nat))/\W'.cell? ⟨g',0,none⟩=some (.string fb)/\W'.cell? ⟨g',1,none⟩=some (.int .u64 (ib:Nat))/\W'.cell? ⟨g',3,none⟩=some (.int .u64 (tb:Nat))/\
   (Instr.lookup 109 (.map (some mb)) (.string fa) false).run Tryz.prog W'= .ok (.int .i64 (pa:Nat)) W'/\(Instr.lookup 109 (.map (some mb)) (.string fb) false).run Tryz.prog W'= .ok (.int .i64 (pb:Nat)) W') W'):=U fun W' hW=>by
  have h1:W'.heap[g]?=_:=(hW.block g O0).trans hx1
  have h2:W'.heap[g']?=_:=(hW.block g' O0).trans hx2
  have h3:=hW.block mb hm2.lt
  refine⟨hW,by simp[World.cell?,h1],by simp[World.cell?,h1],by simp[World.cell?,h1],by simp[World.cell?,h2],by simp[World.cell?,h2],by simp[World.cell?,h2],?_,?_⟩
  ·rw[hpa];exact hm2.look fa ha W' h3
  ·rw[hpb];exact hm2.look fb hb W' h3
 have HB2:Hid (Below w.heap.size w W2):=U (hb1.trans (hb12.mono hb1.size))
 have HQ:Hid (∃q os,(W2.alloc (.cells #[.int .i64 (DZ ta tb),.int .i64 (GL (pa:Nat) (pb:Nat)),.int .i64 (DZ ia ib)] 3)).drew=Go.Sort.grow (w.drewN q) os):=U ⟨1,#[.cells #[.string fa,.int .u64 (ia:Nat),.int .i64 na,.int .u64 (ta:Nat)] 57,.cells #[.string fb,.int .u64 (ib:Nat),.int .i64 nb,.int .u64 (tb:Nat)] 57,.cells #[.int .i64 (DZ ta tb),.int .i64 (GL (pa:Nat) (pb:Nat)),.int .i64 (DZ ia ib)] 3],by
  rw[hW2,hW1,Go.Sort.alloc_eq_grow,Go.Sort.alloc_eq_grow,Go.Sort.alloc_eq_grow,Go.Sort.grow_grow,Go.Sort.grow_grow];rfl⟩
 have HD:Hid (Below W2.heap.size W2 W2.drew):=U (Da (Below.refl _ _))
 clear hz1 hz2 hb1 hb12 hx1 hx2 hm2 hm ha hb hpa hpb
 replace hW1:=U hW1;replace hW2:=U hW2;replace hg:=U hg;replace hg':=U hg'
 go_enter Tryz.func46,Tryz.ntmps46
 go_upto_region 1 with fail
 rw[<-hW1.out, <-hW2.out, <-hg'.out, <-hg.out]
 go_region_held3 (fun W':World=>Below W2.heap.size W2 W'/\W'.cell? ⟨g,0,none⟩=some (.string fa)/\W'.cell? ⟨g,1,none⟩=some (.int .u64 (ia:Nat))/\W'.cell? ⟨g,3,none⟩=some (.int .u64 (ta:Nat))/\W'.cell? ⟨g',0,none⟩=some (.string fb)/\W'.cell? ⟨g',1,none⟩=some (.int .u64 (ib:Nat))/\W'.cell? ⟨g',3,none⟩=some (.int .u64 (tb:Nat))/\
   (Instr.lookup 109 (.map (some mb)) (.string fa) false).run Tryz.prog W'= .ok (.int .i64 (pa:Nat)) W'/\(Instr.lookup 109 (.map (some mb)) (.string fb) false).run Tryz.prog W'= .ok (.int .i64 (pb:Nat)) W')
  (first
   | exact HS.out _ HD.out
   | exact HS.out _ (Da Rl)
   | (go_split_ands;exact HS.out _ ((show Below W2.heap.size W2 _ by assumption).alloc (show Below W2.heap.size W2 _ by assumption).size _))
   | go_keep)
  (first
   | (go_at_call 54;refine(Sh _ _ _).mono ?_;rintro e w' ⟨rfl,rfl⟩)
   | (go_at_call 77;refine(Vb _ _ _).mono ?_;rintro e w' ⟨rfl,rfl⟩)
   | (go_at_call 76;refine(or3_any (DZ ta tb) (GL (pa:Nat) (pb:Nat)) (DZ ia ib) _ _ (by simp[go_sem]) (by simp[go_sem]) (by simp[go_sem])).mono ?_;rintro e w' ⟨rfl,rfl⟩))
 all_goals
  clear HS HD
  go_wp2_with fail
  go_ret
  exact⟨rfl,HQ.out⟩
theorem mul_lt {K x y p q:Nat}(hp:p<K)(h:x<y):x*K+p<y*K+q:=by
 have:(x+1)*K<=y*K:=Nat.mul_le_mul_right K h
 rw[Nat.succ_mul] at this;omega
theorem Lk {a b pa pb ia ib K M:Nat}(ha:pa*M+ia<K)(hb:pb*M+ib<K)(hia:ia<M)(hib:ib<M):or3 (DZ a b) (GL (pa:Nat) (pb:Nat)) (DZ ia ib)=DZ (a*K+(pa*M+ia)) (b*K+(pb*M+ib)):=by
 unfold or3 DZ GL
 rcases Nat.lt_trichotomy a b with h|h|h
 ·have := mul_lt (q := pb * M + ib) ha h
  simp[h,this]
 ·subst h
  rcases Nat.lt_trichotomy pa pb with h|h|h
  ·have h1 : pa * M + ia < pb * M + ib := mul_lt hia h
   have h2:(pa:Int)<(pb:Int):=O0
   simp[h,h1]
  ·subst h
   simp
  ·have h1 : pb * M + ib < pa * M + ia := mul_lt hib h
   have h2:¬pa<pb:=O0
   have h4:¬pa*M+ia<pb*M+ib:=O0
   simp[h,h2,h1,h4]
 ·have h1 := mul_lt (q := pa * M + ia) hb h
  have h2:¬a<b:=O0
  have h3:¬a*K+(pa*M+ia)<b*K+(pb*M+ib):=O0
  simp[h,h2,h1,h3]
end Ta
namespace Ts
open Ta (RF rfL PMap)
open Lv (DZ)
open Vt (Da)
structure FRow (base blk n : Nat) (W : World) (f : Nat -> RF) : Prop where
 lt:blk<W.heap.size
 ge:base<=blk
 cell:∀i,i<n->∀q,q<4->W.cell? ⟨blk,i*4+q,none⟩=(rfL (f i))[q]?
 fz:∀o,o<n*4->W.frozen? ⟨blk,o,none⟩=false
variable {base blk n : Nat} {W W' : World} {f g : Nat -> RF}
theorem FRow.cells (h:FRow base blk n W f)(i:Nat)(hi:i<n):W.cell? ⟨blk,i*4,none⟩=some (.string (f i).flow)/\W.cell? ⟨blk,i*4+1,none⟩=some (.int .u64 ((f i).id:Nat))/\W.cell? ⟨blk,i*4+2,none⟩=some (.int .i64 (f i).n)/\W.cell? ⟨blk,i*4+3,none⟩=some (.int .u64 ((f i).at':Nat)):=
 ⟨h.cell i hi 0 O0,h.cell i hi 1 O0,h.cell i hi 2 O0,h.cell i hi 3 O0⟩
theorem FRow.fzs (h:FRow base blk n W f)(i:Nat)(hi:i<n):W.frozen? ⟨blk,i*4,none⟩=false/\W.frozen? ⟨blk,i*4+1,none⟩=false/\W.frozen? ⟨blk,i*4+2,none⟩=false/\W.frozen? ⟨blk,i*4+3,none⟩=false:=
 ⟨h.fz _ O0,h.fz _ O0,h.fz _ O0,h.fz _ O0⟩
theorem FRow.later (h:FRow base blk n W f)(hb:Below W.heap.size W W'):FRow base blk n W' f:=
 ⟨Nat.lt_of_lt_of_le h.lt hb.size,h.ge,fun i hi q hq=>(hb.cell (p:=⟨blk,_,none⟩) h.lt).trans (h.cell i hi q hq),fun o ho=>(hb.frozen (p:=⟨blk,_,none⟩) h.lt).trans (h.fz o ho)⟩
def sw (f:Nat->RF)(i j:Nat)(k:Nat):RF:=if k=i then f j else if k=j then f i else f k
def set4 (w:World)(b p:Nat)(r:RF):World:=(((w.setCell ⟨b,p,none⟩ (.string r.flow)).setCell ⟨b,p+1,none⟩ (.int .u64 (r.id:Nat))).setCell ⟨b,p+2,none⟩ (.int .i64 r.n)).setCell ⟨b,p+3,none⟩ (.int .u64 (r.at':Nat))
theorem JK (w:World)(b p:Nat)(r:RF)(o:Nat)(h:o<p\/p+4<=o):(set4 w b p r).cell? ⟨b,o,none⟩=w.cell? ⟨b,o,none⟩:=by
 have e:∀(W:World) (k:Nat) (x:Value),k≠o->(W.setCell ⟨b,k,none⟩ x).cell? ⟨b,o,none⟩=W.cell? ⟨b,o,none⟩:=fun W k x hk=>World.cell?_setCell_other _ _ _ _ (fun e=>hk (by cases e;rfl))
 unfold set4
 rw[e _ _ _ O0,e _ _ _ O0,e _ _ _ O0,e _ _ _ O0]
theorem set4_at (w:World)(b p:Nat)(r:RF)(y0 y1 y2 y3:Value)(h:w.cell? ⟨b,p,none⟩=some y0/\w.cell? ⟨b,p+1,none⟩=some y1/\w.cell? ⟨b,p+2,none⟩=some y2/\w.cell? ⟨b,p+3,none⟩=some y3)(q:Nat)(hq:q<4):(set4 w b p r).cell? ⟨b,p+q,none⟩=(rfL r)[q]?:=by
 obtain⟨h0,h1,h2,h3⟩:=h
 have e:∀(W:World) (o k:Nat) (x:Value),o≠k->(W.setCell ⟨b,o,none⟩ x).cell? ⟨b,k,none⟩=W.cell? ⟨b,k,none⟩:=fun W o k x ho=>World.cell?_setCell_other _ _ _ _ (fun e=>ho (by cases e;rfl))
 unfold set4
 rcases (by omega:q=0\/q=1\/q=2\/q=3) with rfl|rfl|rfl|rfl
 ·rw [Nat.add_zero, e _ _ _ _ O0, e _ _ _ _ O0, e _ _ _ _ O0]
  exact World.cell?_setCell_same' _ _ _ (by rw[h0];rfl)
 ·rw [e _ _ _ _ O0, e _ _ _ _ O0]
  exact World.cell?_setCell_same' _ _ _ (by rw[e _ _ _ _ O0,h1];rfl)
 ·rw [e _ _ _ _ O0]
  exact World.cell?_setCell_same' _ _ _ (by rw[e _ _ _ _ O0,e _ _ _ _ O0,h2];rfl)
 ·exact World.cell?_setCell_same' _ _ _ (by rw[e _ _ _ _ O0,e _ _ _ _ O0,e _ _ _ _ O0,h3];rfl)
theorem UC (w:World)(b p:Nat)(r:RF):Hi.Chg (fun c=>c=b) w (set4 w b p r):=by
 have h:∀(W:World) (o:Nat) (x:Value),Hi.Chg (fun c=>c=b) W (W.setCell ⟨b,o,none⟩ x):=fun W o x=>Hi.Chg.setCell (X:=fun c=>c=b) (p:=⟨b,o,none⟩) rfl x
 unfold set4
 exact(((h _ _ _).trans (h _ _ _)).trans (h _ _ _)).trans (h _ _ _)
theorem FRow.put (h:FRow base blk n W f){i:Nat}(hi:i<n)(r:RF):FRow base blk n (set4 W blk (i*4) r) fun k=>if k=i then r else f k:=by
 refine⟨Nat.lt_of_lt_of_le h.lt (UC ..).size,h.ge,fun k hk q hq=> ?_,fun o ho=>by unfold set4;simp only[World.frozen?_setCell];exact h.fz o ho⟩
 by_cases e:k=i
 ·subst e
  rw[if_pos rfl]
  exact set4_at W blk _ r _ _ _ _ (h.cells k hk) q hq
 ·rw [if_neg e, JK _ _ _ _ _ (by rcases Nat.lt_or_gt_of_ne e with z | z <;> omega)]
  exact h.cell k hk q hq
def swW (W:World)(blk i j:Nat)(f:Nat->RF):World:=set4 (set4 W blk (i*4) (f j)) blk (j*4) (f i)
theorem FRow.swap (h:FRow base blk n W f){i j:Nat}(hi:i<n)(hj:j<n):FRow base blk n (swW W blk i j f) (sw f i j):=by
 have h2:=(h.put hi (f j)).put hj (f i)
 unfold swW
 refine⟨h2.lt,h2.ge,fun k hk q hq=> ?_,h2.fz⟩
 rw[h2.cell k hk q hq]
 have e:(if k=j then f i else if k=i then f j else f k)=sw f i j k:=by
  unfold sw
  by_cases e:k=j
  ·subst e
   by_cases e2:k=i
   ·subst e2;simp
   ·simp[e2]
  ·by_cases e2 : k = i
   ·subst e2;simp[e]
   ·simp[e,e2]
 rw[e]
theorem LR (h:FRow base blk n W f){w0:World}(hb:Below base w0 W)(i j:Nat):Below base w0 (swW W blk i j f):=by
 have hc:Hi.Chg (fun c=>c=blk) W (swW W blk i j f):=(UC ..).trans (UC ..)
 exact hb.trans ((hc.below (Nat.le_of_lt (Nat.lt_of_le_of_lt h.ge h.lt)) fun c e=>by have e:c=blk:=e;rw[e];exact h.ge))
def Mix (a b:Nat)(f g:Nat->RF):Prop:=∃s:Nat->Nat,(∀k,g k=f (s k))/\(∀k,k<a\/b<=k->s k=k)/\(∀k,a<=k->k<b->a<=s k/\s k<b)/\∀k l,s k=s l->k=l
theorem Mix.refl (a b:Nat)(f:Nat->RF):Mix a b f f:=⟨id,fun _=>rfl,fun _ _=>rfl,fun _ h1 h2=>⟨h1,h2⟩,fun _ _ h=>h⟩
theorem Mix.trans {a b:Nat}{h:Nat->RF}(m:Mix a b f g)(m':Mix a b g h):Mix a b f h:=by
 obtain⟨s,s1,s2,s3,s4⟩:=m
 obtain⟨t,t1,t2,t3,t4⟩:=m'
 refine⟨fun k=>s (t k),fun k=>by rw[t1,s1],fun k hk=>by show s (t k)=k;rw[t2 k hk,s2 k hk],fun k h1 h2=> ?_,fun k l e=>t4 k l (s4 _ _ e)⟩
 obtain⟨q1,q2⟩:=t3 k h1 h2
 exact s3 _ q1 q2
theorem Mix.mono {a b a' b':Nat}(m:Mix a b f g)(ha:a'<=a)(hb:b<=b'):Mix a' b' f g:=by
 obtain⟨s,s1,s2,s3,s4⟩:=m
 refine⟨s,s1,fun k hk=>s2 k O0,fun k h1 h2=> ?_,s4⟩
 by_cases q:a<=k/\k<b
 ·have:=s3 k q.1 q.2;omega
 ·rw[s2 k O0];exact⟨h1,h2⟩
theorem FQ {a b i j:Nat}(f:Nat->RF)(hi:a<=i/\i<b)(hj:a<=j/\j<b):Mix a b f (sw f i j):=by
 refine⟨fun k=>if k=i then j else if k=j then i else k,fun k=> ?_,fun k hk=> ?_,fun k h1 h2=> ?_,fun k l e=> ?_⟩
 ·show sw f i j k = f (if k = i then j else if k = j then i else k)
  unfold sw
  by_cases e:k=i
  ·rw[if_pos e,if_pos e]
  ·rw [if_neg e, if_neg e]
   by_cases e2:k=j
   ·rw[if_pos e2,if_pos e2]
   ·rw[if_neg e2,if_neg e2]
 ·show (if k = i then j else if k = j then i else k) = k
  rw[if_neg O0,if_neg O0]
 ·show a <= (if k = i then j else if k = j then i else k) /\ (if k = i then j else if k = j then i else k) < b
  split
  ·exact hj
  ·split
   ·exact hi
   ·exact⟨h1,h2⟩
 ·replace e : (if k = i then j else if k = j then i else k) = (if l = i then j else if l = j then i else l) := e
  split at e<;>split at e<;>(try split at e)<;>(try split at e)<;>omega
theorem Mix.out {a b k:Nat}(m:Mix a b f g)(h:k<a\/b<=k):g k=f k:=by
 obtain⟨s,s1,s2,-⟩:=m
 rw[s1,s2 k h]
theorem Mix.in_ {a b k:Nat}(m:Mix a b f g)(h:a<=k)(h2:k<b):∃l,a<=l/\l<b/\g k=f l:=by
 obtain⟨s,s1,-,s3,-⟩:=m
 exact⟨s k,(s3 k h h2).1,(s3 k h h2).2,s1 k⟩
def Dist (key:RF->Nat)(n:Nat)(f:Nat->RF):Prop:=∀i j,i<n->j<n->key (f i)=key (f j)->i=j
theorem Dist.mix {key:RF->Nat}{a b:Nat}(h:Dist key n f)(m:Mix a b f g)(hb:b<=n):Dist key n g:=by
 obtain⟨s,s1,s2,s3,s4⟩:=m
 have hs:∀k,k<n->s k<n:=fun k hk=>by
  by_cases q:a<=k/\k<b
  ·have:=s3 k q.1 q.2;omega
  ·rw[s2 k O0];exact hk
 intro i j hi hj e
 rw[s1,s1] at e
 exact s4 i j (h _ _ (hs i hi) (hs j hj) e)
def Srt (key:RF->Nat)(a b:Nat)(f:Nat->RF):Prop:=∀i j,a<=i->i<j->j<b->key (f i)<key (f j)
structure Env (base blk n : Nat) (w0 : World) (mb : Nat) (key : RF -> Nat) (Ok : RF -> Prop) : Prop where
 cmp:∀(W:World) (a b:RF),Below base w0 W->Ok a->Ok b->Calls Tryz.prog 46 #[.map (some mb),.agg #[.string a.flow,.int .u64 (a.id:Nat),.int .i64 a.n,.int .u64 (a.at':Nat)],.agg #[.string b.flow,.int .u64 (b.id:Nat),.int .i64 b.n,.int .u64 (b.at':Nat)]] W fun e w'=>e= .returned (.int .i64 (DZ (key a) (key b)))/\∃q os,w'=Go.Sort.grow (W.drewN q) os
 len:n<=1000000000000
structure St (base blk n : Nat) (w0 : World) (key : RF -> Nat) (Ok : RF -> Prop) (W : World) (f : Nat -> RF) : Prop where
 row:FRow base blk n W f
 below:Below base w0 W
 ok:∀i,i<n->Ok (f i)
 dist:Dist key n f
theorem St.later {w0:World}{key:RF->Nat}{Ok:RF->Prop}(h:St base blk n w0 key Ok W f)(hb:Below W.heap.size W W'):St base blk n w0 key Ok W' f:=
 ⟨h.row.later hb,h.below.trans (hb.mono (Nat.le_of_lt (Nat.lt_of_le_of_lt h.row.ge h.row.lt))),h.ok,h.dist⟩
theorem St.swap {w0:World}{key:RF->Nat}{Ok:RF->Prop}(h:St base blk n w0 key Ok W f){i j:Nat}(hi:i<n)(hj:j<n):St base blk n w0 key Ok (swW W blk i j f) (sw f i j):=
 ⟨h.row.swap hi hj,LR h.row h.below i j,fun k hk=>by unfold sw;split;exact h.ok j hj;split;exact h.ok i hi;exact h.ok k hk,h.dist.mix (FQ f ⟨Nat.zero_le _,hi⟩ ⟨Nat.zero_le _,hj⟩) (Nat.le_refl _)⟩
end Ts
open Go.RowKit Go.Sort
namespace Ts
open Ta (RF rfL PMap)
open Lv (DZ)
open Vt (Da)
variable {base blk n : Nat} {W W' w0 : World} {f g : Nat -> RF} {key : RF -> Nat} {Ok : RF -> Prop} {mb : Nat}
theorem cmp_lt {a b:Nat}:(DZ a b:Int)<0↔a<b:=by
 unfold DZ
 by_cases h:a<b
 ·simp[h]
 ·rw[if_neg h];split<;>simp[h]
theorem mixed : Tryz.prog.follows .mixedOrders=true:=O2
theorem DF (W:World)(k:Nat)(os:Array Obj):Below W.heap.size W (grow (W.drewN k) os):=
 ⟨rfl,rfl,rfl,by rw[size_grow];exact Nat.le_add_right _ _,fun b hb=>by unfold grow;simp only;rw[Array.getElem?_append_left (by simpa using hb)];rfl⟩
def At4 (W:World)(blk i:Nat)(xf:ByteArray)(xi:Nat)(xn:Int)(xa:Nat):Prop:=W.cell? ⟨blk,i*4,none⟩=some (.string xf)/\W.cell? ⟨blk,i*4+1,none⟩=some (.int .u64 (xi:Nat))/\W.cell? ⟨blk,i*4+2,none⟩=some (.int .i64 xn)/\W.cell? ⟨blk,i*4+3,none⟩=some (.int .u64 (xa:Nat))
theorem St.at4 (h:St base blk n w0 key Ok W f){i:Nat}(hi:i<n){xf:ByteArray}{xi xa:Nat}{xn:Int}(e:f i=⟨xf,xi,xn,xa⟩):At4 W blk i xf xi xn xa:=by
 have:=h.row.cells i hi
 rw[e] at this
 exact this
theorem St.cmp (h:St base blk n w0 key Ok W f)(hE:Env base blk n w0 mb key Ok){i j:Nat}(hi:i<n)(hj:j<n):∃xf xi xn xa yf yi yn ya,∃cv:Int,f i=⟨xf,xi,xn,xa⟩/\f j=⟨yf,yi,yn,ya⟩/\(cv<0↔key (f i)<key (f j))/\
  (∀k os,At4 (grow (W.drewN k) os) blk i xf xi xn xa/\At4 (grow (W.drewN k) os) blk j yf yi yn ya)/\
  ∀k os,Calls Tryz.prog 46 #[.map (some mb),.agg #[.string xf,.int .u64 (xi:Nat),.int .i64 xn,.int .u64 (xa:Nat)],.agg #[.string yf,.int .u64 (yi:Nat),.int .i64 yn,.int .u64 (ya:Nat)]] (grow (W.drewN k) os) fun e w'=>e= .returned (.int .i64 cv)/\∃q os',w'=grow ((grow (W.drewN k) os).drewN q) os':=by
 have hl:=fun k os=>h.later (DF W k os)
 have hc:=fun k os=>hE.cmp (grow (W.drewN k) os) (f i) (f j) (hl k os).below (h.ok i hi) (h.ok j hj)
 obtain⟨x,hx⟩:=Rm (f i)
 obtain⟨y,hy⟩:=Rm (f j)
 rw[<-hx, <-hy] at hc ⊢
 obtain⟨xf,xi,xn,xa⟩:=x
 obtain⟨yf,yi,yn,ya⟩:=y
 exact⟨xf,xi,xn,xa,yf,yi,yn,ya,_,rfl,rfl,cmp_lt,fun k os=>⟨(hl k os).at4 hi hx.symm,(hl k os).at4 hj hy.symm⟩,hc⟩
theorem eight {F:Nat->Array Obj->World}{i j:Nat}{xf yf:ByteArray}{xi xa yi ya:Nat}{xn yn:Int}(h:∀k os,At4 (F k os) blk i xf xi xn xa/\At4 (F k os) blk j yf yi yn ya) :
  (∀k os,(F k os).cell? ⟨blk,i*4,none⟩=some (.string xf))/\(∀k os,(F k os).cell? ⟨blk,i*4+1,none⟩=some (.int .u64 (xi:Nat)))/\(∀k os,(F k os).cell? ⟨blk,i*4+2,none⟩=some (.int .i64 xn))/\(∀k os,(F k os).cell? ⟨blk,i*4+3,none⟩=some (.int .u64 (xa:Nat)))/\
  (∀k os,(F k os).cell? ⟨blk,j*4,none⟩=some (.string yf))/\(∀k os,(F k os).cell? ⟨blk,j*4+1,none⟩=some (.int .u64 (yi:Nat)))/\(∀k os,(F k os).cell? ⟨blk,j*4+2,none⟩=some (.int .i64 yn))/\∀k os,(F k os).cell? ⟨blk,j*4+3,none⟩=some (.int .u64 (ya:Nat)):=
 ⟨fun k os=>(h k os).1.1,fun k os=>(h k os).1.2.1,fun k os=>(h k os).1.2.2.1,fun k os=>(h k os).1.2.2.2,fun k os=>(h k os).2.1,fun k os=>(h k os).2.2.1,fun k os=>(h k os).2.2.2.1,fun k os=>(h k os).2.2.2.2⟩
theorem St.swp (h:St base blk n w0 key Ok W f){i j:Nat}(hi:i<n)(hj:j<n){xf yf:ByteArray}{xi xa yi ya:Nat}{xn yn:Int}(ex:f i=⟨xf,xi,xn,xa⟩)(ey:f j=⟨yf,yi,yn,ya⟩) :
  (At4 W blk i xf xi xn xa/\At4 W blk j yf yi yn ya)/\((W.frozen? ⟨blk,i*4,none⟩=false/\W.frozen? ⟨blk,i*4+1,none⟩=false/\W.frozen? ⟨blk,i*4+2,none⟩=false/\W.frozen? ⟨blk,i*4+3,none⟩=false)/\(W.frozen? ⟨blk,j*4,none⟩=false/\W.frozen? ⟨blk,j*4+1,none⟩=false/\W.frozen? ⟨blk,j*4+2,none⟩=false/\W.frozen? ⟨blk,j*4+3,none⟩=false))/\
  ((W.setCell ⟨blk,i*4,none⟩ (.string yf)).cell? ⟨blk,j*4,none⟩=some (.string yf)/\((W.setCell ⟨blk,i*4,none⟩ (.string yf)).setCell ⟨blk,i*4+1,none⟩ (.int .u64 (yi:Nat))).cell? ⟨blk,j*4+1,none⟩=some (.int .u64 (yi:Nat))/\(((W.setCell ⟨blk,i*4,none⟩ (.string yf)).setCell ⟨blk,i*4+1,none⟩ (.int .u64 (yi:Nat))).setCell ⟨blk,i*4+2,none⟩ (.int .i64 yn)).cell? ⟨blk,j*4+2,none⟩=some (.int .i64 yn)/\((((W.setCell ⟨blk,i*4,none⟩ (.string yf)).setCell ⟨blk,i*4+1,none⟩ (.int .u64 (yi:Nat))).setCell ⟨blk,i*4+2,none⟩ (.int .i64 yn)).setCell ⟨blk,i*4+3,none⟩ (.int .u64 (ya:Nat))).cell? ⟨blk,j*4+3,none⟩=some (.int .u64 (ya:Nat)))/\
  St base blk n w0 key Ok (((((((((W.setCell ⟨blk,i*4,none⟩ (.string yf)).setCell ⟨blk,i*4+1,none⟩ (.int .u64 (yi:Nat))).setCell ⟨blk,i*4+2,none⟩ (.int .i64 yn)).setCell ⟨blk,i*4+3,none⟩ (.int .u64 (ya:Nat))).setCell ⟨blk,j*4,none⟩ (.string xf)).setCell ⟨blk,j*4+1,none⟩ (.int .u64 (xi:Nat))).setCell ⟨blk,j*4+2,none⟩ (.int .i64 xn)).setCell ⟨blk,j*4+3,none⟩ (.int .u64 (xa:Nat))).drew) (sw f i j):=by
 have hne:∀(W:World) (p q:Nat) (v u:Value),p≠q->W.cell? ⟨blk,q,none⟩=some v->(W.setCell ⟨blk,p,none⟩ u).cell? ⟨blk,q,none⟩=some v:=fun W p q v u e hv=>by rw[World.cell?_setCell_other _ _ _ _ (fun k=>e (by cases k;rfl))];exact hv
 have hst:∀(W:World) (p q:Nat) (v:Value),W.cell? ⟨blk,q,none⟩=some v->(W.setCell ⟨blk,p,none⟩ v).cell? ⟨blk,q,none⟩=some v:=fun W p q v hv=>by
  by_cases e:p=q
  ·subst e;exact World.cell?_setCell_same' _ _ _ (by rw[hv];rfl)
  ·rw[World.cell?_setCell_other _ _ _ _ (fun k=>e (by cases k;rfl))];exact hv
 obtain⟨b0,b1,b2,b3⟩:=h.at4 hj ey
 refine⟨⟨h.at4 hi ex,h.at4 hj ey⟩,⟨h.row.fzs i hi,h.row.fzs j hj⟩,⟨hst _ _ _ _ b0,hst _ _ _ _ (hne _ _ _ _ _ O0 b1),hst _ _ _ _ (hne _ _ _ _ _ O0 (hne _ _ _ _ _ O0 b2)),hst _ _ _ _ (hne _ _ _ _ _ O0 (hne _ _ _ _ _ O0 (hne _ _ _ _ _ O0 b3)))⟩,?_⟩
 have h2:=h.swap hi hj
 unfold swW at h2
 rw[ex,ey] at h2
 exact h2.later (Da (Below.refl _ _))
theorem Vw (h:p:=by
 obtain⟨x0,x1,x2,x3,y0,y1,y2,y3⟩:=eight hcl
 have HX:=U hx;have HY:=U hy;have HCV:=U hcv
 clear hx hy hcv hcl
 exact Y464):p:=h
theorem XN (h:p:=by
 generalize hwq:grow (wr.drewN (GrownBy.mk nq osq).n) (GrownBy.mk nq osq).os=wq
 rw[show grow (wr.drewN nq) osq=wq from hwq] at HQ
 clear hwq hcg x0 x1 x2 x3 y0 y1 y2 y3
 exact Y439):p:=h
theorem M150 (h:p:=by
 go_wp2_with fail
 go_roundw
 case rel=>exact⟨i+1,g',by go_num,O0,.inl O0,HQ.out,HM1.out,HSR2.out⟩
 case measure=>(simp[intOf];try omega)):p:=h
theorem Re (h:p:=by
 go_wp2_with fail
 go_region
 clear x0 x1 x2 x3 y0 y1 y2 y3 u0 u1 u2 u3 v0 v1 v2 v3 q0 q1 q2 q3
 go_wp2_with fail
 exact Y722):p:=h
theorem Q724.Y722 (h:p:=by
 go_roundw
 case rel=>exact⟨jp,_,by go_num,O0,O0,HW.out,HM2.out,HIN2.out⟩
 case measure=>(simp[intOf];try omega)):p:=h
theorem Q443.Y439 (h:p:=by
 obtain⟨⟨⟨x0,x1,x2,x3⟩,y0,y1,y2,y3⟩,⟨⟨u0,u1,u2,u3⟩,v0,v1,v2,v3⟩,⟨q0,q1,q2,q3⟩,hsw⟩:=HQ.out.swp (i:=jp+1) (j:=jp) hj1 hj0 HX.out HY.out
 have HW:=U hsw
 clear hsw
 have HM2:=U (HM1.out.trans (FQ g' (i:=jp+1) (j:=jp) (a:=a) (b:=b) O0 O0))
 have HIN2:Hid (∀p q,a<=p->p<q->q<=i->q≠jp->key (sw g' (jp+1) jp p)<key (sw g' (jp+1) jp q)):=U fun p q h1 h2 h3 h4=>by
  have hk:=HK.out;have hin:=HIN.out
  unfold sw
  by_cases q1:q=jp+1
  ·rw [if_pos q1]
   by_cases p1:p=jp
   ·rw[if_neg O0,if_pos p1];exact hk
   ·rw[if_neg O0,if_neg p1];exact hin p jp h1 O0 O0 O0
  ·rw [if_neg q1, if_neg h4]
   by_cases p1:p=jp+1
   ·rw[if_pos p1];exact hin jp q O0 O0 h3 q1
   ·rw [if_neg p1]
    by_cases p2:p=jp
    ·rw[if_pos p2];exact hin (jp+1) q O0 O0 h3 q1
    ·rw[if_neg p2];exact hin p q h1 h2 h3 q1
 open Q724 in exact Re):p:=h
theorem Q444.Y439 (h:p:=by
 have HSR2:Hid (Srt key a (i+1) g'):=U fun p q h1 h2 h3=>by
  have hin:=HIN.out
  by_cases q1:q=jp+1
  ·subst q1
   have hd:key (g' jp)<key (g' (jp+1)):=by
    rcases Nat.lt_trichotomy (key (g' (jp+1))) (key (g' jp)) with c|c|c
    ·exact absurd c HK.out
    ·have:=HS1.out.dist _ _ hj1 hj0 c;omega
    ·exact c
   by_cases p1:p=jp
   ·rw[p1];exact hd
   ·exact Nat.lt_trans (hin p jp h1 O0 O0 O0) hd
  ·exact hin p q h1 h2 O0 q1
 exact M150):p:=h
theorem Q469.Y464 (h:p:=by
 by_cases hlt2:cv<0
 ·have hkl := HCV.out.1 hlt2
  have HK:=U hkl
  clear hkl
  go_wp2_with fail
  go_quiet_grown (first | (go_at_call 46;refine Calls.grown_of (hcg _ _)))
  have HQ:=U (HS1.out.later (DF wr nq osq))
  open Q443 in exact XN
 ·have hge := fun q => hlt2 (HCV.out.2 q)
  have HK:=U hge
  clear hge
  go_wp2_with fail
  go_quiet_grown (first | (go_at_call 46;refine Calls.grown_of (hcg _ _)))
  have HQ:=U (HS1.out.later (DF wr nq osq))
  open Q444 in exact XN):p:=h
theorem Q571.Y570 (h:p:=by
 go_enter Tryz.func121,Tryz.ntmps121
 go_wp2_with fail
 go_loopw [8] (fun v wr=>∃(i:Nat) (g:Nat->RF),v= .int .i64 i/\a<i/\(i<=b\/i=a+1)/\St base blk n w0 key Ok wr g/\Mix a b f g/\Srt key a i g) (fun v _=>b-(intOf v).toNat)
 case atStart=>exact⟨a+1,f,by go_num,O0,.inr rfl,HST.out,Mix.refl _ _ _,fun p q h1 h2 h3=>O0⟩
 case round=>
  obtain⟨i,g,rfl,hai,hib,hst,hmx,hsr⟩:=hrel
  have HS0:=U hst;have HMX:=U hmx;have HSR:=U hsr
  clear hst hmx hsr HST
  by_cases hlt:i<b
  ·go_wp2_with fail
   go_loopw [9] (fun v wr=>∃(j:Nat) (g':Nat->RF),v= .int .i64 j/\a<=j/\j<=i/\St base blk n w0 key Ok wr g'/\Mix a b f g'/\∀p q,a<=p->p<q->q<=i->q≠j->key (g' p)<key (g' q)) (fun v _=>(intOf v).toNat)
   case atStart=>exact⟨i,g,rfl,O0,Nat.le_refl _,HS0.out,HMX.out,fun p q h1 h2 h3 h4=>HSR.out p q h1 h2 O0⟩
   case round=>
    obtain⟨j,g',rfl,haj,hji,hst,hmx,hin⟩:=hrel
    have HS1:=U hst;have HM1:=U hmx;have HIN:=U hin
    clear hst hmx hin HS0 HMX HSR
    by_cases hja:a<j
    ·obtain ⟨jp, rfl⟩ : ∃ jp, j = jp + 1 := ⟨j - 1, O0⟩
     have hj1:jp+1<n:=O0
     have hj0:jp<n:=O0
     have jz:(jp:Int)+1<(n:Int):=O0
     have jz1:(jp:Int)<(n:Int):=O0
     have hjz:(a:Int)<(jp:Int)+1:=O0
     have p0:(0:Int)<=(jp:Int)+1:=O0
     have hwp:IntKind.i64.wrap (jp:Int)=(jp:Int):=by rw[IntKind.wrap_i64];omega
     obtain⟨xf,xi,xn,xa,yf,yi,yn,ya,cv,hx,hy,hcv,hcl,hcg⟩:=HS1.out.cmp HE.out (i:=jp+1) (j:=jp) hj1 hj0
     open Q469 in exact Vw
    ·have hje : j = a := O0
     have HSR2:Hid (Srt key a (i+1) g'):=U fun p q h1 h2 h3=>HIN.out p q h1 h2 O0 O0
     have hjz:¬(a:Int)<(j:Int):=O0
     go_wp2_with fail
     go_region
     have HQ:=U (HS1.out.later (Da (Below.refl _ _)))
     exact M150
  ·have HSR2 : Hid (Srt key a b g) := U fun p q h1 h2 h3 => HSR.out p q h1 h2 O0
   go_wp2_with fail
   refine bodyPost_end (results_none rfl _ _ _) rfl ?_
   exact⟨⟨_,rfl⟩,g,HS0.out,HMX.out,HSR2.out⟩):p:=h
theorem KM (h:p:=by
 have HE:=U hE;have HST:=U h
 have hn:=hE.len
 obtain⟨hc1,hc2⟩:=hcap
 simp only[maxLen] at hc2
 have mx:=mixed
 clear h hE
 exact Y570):p:=h
theorem ins_any (hE:Env base blk n w0 mb key Ok)(a b:Nat)(hab:a<=b)(hb:b<=n)(cap:Nat)(hcap:n<=cap/\cap<=maxLen)(h:St base blk n w0 key Ok W f) :
  Calls Tryz.prog 121 #[.slice (some ⟨blk,0,none⟩) n cap,.int .i64 a,.int .i64 b,.func (.func 46) #[.map (some mb)] #[]] W fun e w'=>(∃v,e= .returned v)/\∃g,St base blk n w0 key Ok w' g/\Mix a b f g/\Srt key a b g:=by
 open Q571 in exact KM
structure PI (key : RF -> Nat) (a b i j : Nat) (g : Nat -> RF) : Prop where
 ai:a+1<=i
 ij:i<=j+1
 jb:j<b
 lo:∀k,a<k->k<i->key (g k)<key (g a)
 hi:∀k,j<k->k<b->key (g a)<key (g k)
theorem PI.end_ {a b i j:Nat}(h:PI key a b i j g)(hij:j<i):(∀k,a<=k->k<j->key (sw g j a k)<key (sw g j a j))/\∀k,j<k->k<b->key (sw g j a j)<key (sw g j a k):=by
 have h1:=h.ai;have h2:=h.ij
 have e:sw g j a j=g a:=by unfold sw;rw[if_pos rfl]
 rw[e]
 refine⟨fun k k1 k2=> ?_,fun k k1 k2=> ?_⟩
 ·unfold sw
  rw[if_neg O0]
  by_cases q:k=a
  ·rw[if_pos q];exact h.lo j O0 O0
  ·rw[if_neg q];exact h.lo k O0 O0
 ·unfold sw
  rw[if_neg O0,if_neg O0]
  exact h.hi k k1 k2
theorem PI.swap {a b i j:Nat}(h:PI key a b i j g)(hij:i<j)(hlo:key (g j)<key (g a))(hhi:key (g a)<key (g i)):PI key a b (i+1) (j-1) (sw g i j):=by
 have h1:=h.ai;have h3:=h.jb
 have e:sw g i j a=g a:=by unfold sw;rw[if_neg O0,if_neg O0]
 refine⟨O0,O0,O0,fun k k1 k2=> ?_,fun k k1 k2=> ?_⟩
 ·rw [e]; unfold sw
  by_cases q:k=i
  ·rw[if_pos q];exact hlo
  ·rw[if_neg q,if_neg O0];exact h.lo k k1 O0
 ·rw [e]; unfold sw
  rw[if_neg O0]
  by_cases q:k=j
  ·rw[if_pos q];exact hhi
  ·rw[if_neg q];exact h.hi k O0 k2
theorem Q440.Y439 (h:p:=by
 go_wp2_with fail
 go_meet
 case rel=>exact⟨by rw[HP.out];by_cases q:key (g j)<key (g a);(simp[hgd,HCV.out,q,Nat.not_le.2 q]);(simp[hgd,HCV.out,q,Nat.not_lt.1 q]),HQ.out⟩):p:=h
theorem Q472.Y464 (h:p:=by
 go_wp2_with fail
 go_quiet_grown (first | (go_at_call 46;refine Calls.grown_of (hcg _ _)))
 have HQ:=U (HS3.out.later (DF wr nq osq))
 open Q440 in exact XN):p:=h
theorem M39 (h:p:=by
 by_cases hgd:i<=j
 ·have hgz : (i : Int) <= (j : Int) := O0
  have hjn:j<n:=O0
  have hjz:(j:Int)<(n:Int):=O0
  have haz:(a:Int)<(n:Int):=O0
  obtain⟨xf,xi,xn,xa,yf,yi,yn,ya,cv,hx,hy,hcv,hcl,hcg⟩:=HS3.out.cmp HE.out (i:=j) (j:=a) (show j<n by omega) (show a<n by omega)
  open Q472 in exact Vw
 ·have hgz : ¬ (i : Int) <= (j : Int) := O0
  go_wp2_with fail
  go_region
  have HQ:=U (HS3.out.later (Da (Below.refl _ _)))
  go_wp2_with fail
  go_meet
  case rel=>exact⟨by rw[HP.out];simp[hgd],HQ.out⟩):p:=h
theorem Q445.Y439 (h:p:=by
 go_wp2_with fail
 go_meet
 case rel=>exact⟨by rw[HP.out];simp[hgd,HCV.out],HQ.out⟩):p:=h
theorem Q474.Y464 (h:p:=by
 go_wp2_with fail
 go_quiet_grown (first | (go_at_call 46;refine Calls.grown_of (hcg _ _)))
 have HQ:=U (HS1.out.later (DF wr nq osq))
 open Q445 in exact XN):p:=h
theorem M42 (h:p:=by
 open Q474 in exact Vw):p:=h
theorem Rf (h:p:=by
 have HW:=U hsw
 clear hsw
 clear hx hy
 go_wp2_with fail
 go_region
 clear x0 x1 x2 x3 y0 y1 y2 y3 u0 u1 u2 u3 v0 v1 v2 v3 q0 q1 q2 q3
 exact Y602):p:=h
theorem Q607.Y602 (h:p:=by
 go_wp2_with fail
 go_ret2
 exact⟨j,_,_,rfl,O0,O0,HW.out,HMD.out,HSD.out.1,HSD.out.2⟩):p:=h
theorem M49 (h:p:=by
 have hgz:(j:Int)<(i:Int):=O0
 have HSD:=U (HPI3.out.end_ hgt)
 have HMD:Hid (Mix a (c+1) f (sw g j a)):=U (HM.out.trans (FQ g O0 O0))
 have hjz:(j:Int)<(n:Int):=O0
 have haz:(a:Int)<(n:Int):=O0
 have hja:a<=j:=O0
 obtain⟨x,hx⟩:=Rm (g j)
 obtain⟨y,hy⟩:=Rm (g a)
 obtain⟨xf,xi,xn,xa⟩:=x
 obtain⟨yf,yi,yn,ya⟩:=y
 obtain⟨⟨⟨x0,x1,x2,x3⟩,y0,y1,y2,y3⟩,⟨⟨u0,u1,u2,u3⟩,v0,v1,v2,v3⟩,⟨q0,q1,q2,q3⟩,hsw⟩:=HS4.out.swp (i:=j) (j:=a) (show j<n by omega) (show a<n by omega) hx.symm hy.symm
 open Q607 in exact Rf):p:=h
theorem M57 (h:p:=by
 have hpp:=of_decide_eq_true HP.out.symm
 obtain⟨jp,rfl⟩:∃jp,j=jp+1:=⟨j-1,O0⟩
 have hwp:IntKind.i64.wrap (jp:Int)=(jp:Int):=by rw[IntKind.wrap_i64];omega
 have HPI4 : Hid (PI key a (c + 1) i jp g) := U ⟨O0, O0, O0, HPI3.out.lo, fun k k1 k2 => by
  by_cases q:k=jp+1
  ·rw [q]
   rcases Nat.lt_trichotomy (key (g (jp+1))) (key (g a)) with z|z|z
   ·exact absurd z hpp.2
   ·have:=HS4.out.dist _ _ (show jp+1<n by omega) (show a<n by omega) z;omega
   ·exact z
  ·exact HPI3.out.hi k O0 k2⟩
 clear hpp
 go_wp2_with fail
 go_roundw
 case rel=>exact⟨jp,by go_num,HS4.out,HPI4.out,O0⟩
 case measure=>(simp[intOf];try omega)):p:=h
theorem M71 (h:p:=by
 go_wp2_with fail
 go_region
 have HQ:=U (HS1.out.later (Da (Below.refl _ _)))
 go_wp2_with fail
 go_meet
 case rel=>exact⟨by rw[HP.out];simp[hgd],HQ.out⟩):p:=h
theorem M102 (h:p:=by
 have hin:i<n:=O0
 have hiz:(i:Int)<(n:Int):=O0
 have haz:(a:Int)<(n:Int):=O0
 obtain⟨xf,xi,xn,xa,yf,yi,yn,ya,cv,hx,hy,hcv,hcl,hcg⟩:=HS1.out.cmp HE.out (i:=i) (j:=a) (show i<n by omega) (show a<n by omega)
 exact M42):p:=h
theorem M132 (h:p:=by
 rcases Nat.lt_trichotomy (key (g i)) (key (g a)) with z|z|z
 ·exact absurd z (HNI.out O0)
 ·have:=HS4.out.dist _ _ (show i<n by omega) (show a<n by omega) z;omega
 ·exact z):p:=h
theorem M154 (h:p:=by
 have hpi:=hpp.1
 clear hpp
 go_wp2_with fail
 go_roundw
 case rel=>exact⟨i+1,by go_num,HS2.out,HPI2.out,O0⟩
 case measure=>(simp[intOf];try omega)):p:=h
theorem Q604.Y602 (h:p:=by
 go_wp2_with fail
 go_roundw
 case rel=>exact⟨i+1,jp,_,by go_num,by go_num,HW.out,HPS.out,HMS.out⟩
 case measure=>(simp[intOf];try omega)):p:=h
theorem Q723.Y722 (h:p:=by
 have HS5:=HW;have HPI5:=HPS;have HM5:=HMS
 clear HS4 HPI3 HPI1 HPJ HM HPI HS
 go_loopw [12,13] (fun v u wr=>∃(i j:Nat) (g:Nat->RF),v= .int .i64 i/\u= .int .i64 j/\St base blk n w0 key Ok wr g/\PI key a (c+1) i j g/\Mix a (c+1) f g) (fun v u _=>(intOf u).toNat+1-(intOf v).toNat)
 case atStart=>exact⟨_,_,_,by go_num,by go_num,HS5.out,HPI5.out,HM5.out⟩
 case round=>
  obtain⟨i0,j0,g,rfl,rfl,hst,hpi,hmx⟩:=hrel
  have HS:=U hst;have HPI:=U hpi;have HM:=U hmx
  have h01:=hpi.ai;have h02:=hpi.ij;have h03:=hpi.jb
  clear hst hpi hmx HS5 HPI5 HM5 HW HPS HMS
  clear h1 h2 h3
  go_wp2_with fail
  go_loopw [12] (fun v wr=>∃i:Nat,v= .int .i64 i/\St base blk n w0 key Ok wr g/\PI key a (c+1) i j0 g/\i0<=i) (fun v _=>j0+1-(intOf v).toNat)
  case atStart=>exact⟨_,by go_num,HS.out,HPI.out,Nat.le_refl _⟩
  case round=>
   obtain⟨i,rfl,hst,hpi,hii⟩:=hrel
   have h1:=hpi.ai;have h2:=hpi.ij;have h3:=hpi.jb
   have HS1:=U hst;have HPI1:=U hpi
   clear hst hpi
   obtain⟨p,hp⟩:=Rm (decide (i<=j0/\key (g i)<key (g a)))
   have HP:=U hp
   clear hp
   go_upto_region 13 with fail
   go_cut [120] from 105 to 120 (fun z wx=>z= .bool p/\St base blk n w0 key Ok wx g)
   case first =>
    by_cases hgd:i<=j0
    ·have hgz : (i : Int) <= (j0 : Int) := O0
     exact M102
    ·have hgz : ¬ (i : Int) <= (j0 : Int) := O0
     exact M71
   case rest=>
    obtain⟨rfl,hst⟩:=hcut
    have HS2:=U hst
    clear hst HS1
    cases p with
    | true=>
     have hpp:=of_decide_eq_true HP.out.symm
     have HPI2 : Hid (PI key a (c + 1) (i + 1) j0 g) := U ⟨O0, O0, h3, fun k k1 k2 => by
      by_cases q:k=i
      ·rw[q];exact hpp.2
      ·exact HPI1.out.lo k k1 O0,HPI1.out.hi⟩
     exact M154
    | false=>
     have HNI:Hid (i<=j0->¬key (g i)<key (g a)):=U fun q1 q2=>(of_decide_eq_false HP.out.symm) ⟨q1,q2⟩
     clear HP
     go_wp2_with fail
     have HPJ:=HPI1
     go_loopw [13] (fun v wr=>∃j:Nat,v= .int .i64 j/\St base blk n w0 key Ok wr g/\PI key a (c+1) i j g/\j<=j0) (fun v _=>(intOf v).toNat)
     case atStart=>exact⟨_,by go_num,HS2.out,HPJ.out,Nat.le_refl _⟩
     case round=>
      obtain⟨j,rfl,hst,hpi,hjj⟩:=hrel
      clear h2 h3 HS2
      have h2:=hpi.ij;have h3:=hpi.jb
      have HS3:=U hst;have HPI3:=U hpi
      clear hst hpi
      obtain⟨p,hp⟩:=Rm (decide (i<=j/\¬key (g j)<key (g a)))
      have HP:=U hp
      clear hp
      go_upto_region 15 with fail
      go_cut [139] from 123 to 139 (fun z wx=>z= .bool p/\St base blk n w0 key Ok wx g)
      case first =>
       exact M39
      case rest=>
       obtain⟨rfl,hst⟩:=hcut
       have HS4:=U hst
       clear hst HS3
       cases p with
       | true=>
        exact M57
       | false=>
        have HNJ:Hid (i<=j->key (g j)<key (g a)):=U fun q1=>Classical.byContradiction fun q2=>(of_decide_eq_false HP.out.symm) ⟨q1,q2⟩
        clear HP
        by_cases hgt:j<i
        ·exact M49
        ·have hlo := HNJ.out O0
         have hne:i≠j:=fun e=>HNI.out O0 (by rw[e];exact hlo)
         have hhi:key (g a)<key (g i):=by
          exact M132
         obtain⟨jp,rfl⟩:∃jp,j=jp+1:=⟨j-1,O0⟩
         have HPS:Hid (PI key a (c+1) (i+1) jp (sw g i (jp+1))):=U (HPI3.out.swap O0 hlo hhi)
         have HMS:Hid (Mix a (c+1) f (sw g i (jp+1))):=U (HM.out.trans (FQ g O0 O0))
         have hwp:IntKind.i64.wrap (jp:Int)=(jp:Int):=by rw[IntKind.wrap_i64];omega
         have hgz:¬(jp:Int)+1<(i:Int):=O0
         have hgn:¬jp+1<i:=O0
         have hjz:(jp:Int)+1<(n:Int):=O0
         have hiz:(i:Int)<(n:Int):=O0
         clear hlo hne hhi HNI HNJ
         obtain⟨x,hx⟩:=Rm (g i)
         obtain⟨y,hy⟩:=Rm (g (jp+1))
         obtain⟨xf,xi,xn,xa⟩:=x
         obtain⟨yf,yi,yn,ya⟩:=y
         obtain⟨⟨⟨x0,x1,x2,x3⟩,y0,y1,y2,y3⟩,⟨⟨u0,u1,u2,u3⟩,v0,v1,v2,v3⟩,⟨q0,q1,q2,q3⟩,hsw⟩:=HS4.out.swp (i:=i) (j:=jp+1) (show i<n by omega) (show jp+1<n by omega) hx.symm hy.symm
         open Q604 in exact Rf):p:=h
theorem Q572.Y570 (h:p:=by
 have han:a<n:=O0
 have hpn:pv<n:=O0
 obtain⟨x,hx⟩:=Rm (f a)
 obtain⟨y,hy⟩:=Rm (f pv)
 obtain⟨xf,xi,xn,xa⟩:=x
 obtain⟨yf,yi,yn,ya⟩:=y
 obtain⟨⟨⟨x0,x1,x2,x3⟩,y0,y1,y2,y3⟩,⟨⟨u0,u1,u2,u3⟩,v0,v1,v2,v3⟩,⟨q0,q1,q2,q3⟩,hsw⟩:=HST.out.swp (i:=a) (j:=pv) han hpn hx.symm hy.symm
 have HW0:=U hsw
 clear hsw
 clear hx hy
 obtain⟨f0,hf0⟩:=Rm (sw f a pv)
 rw[<-hf0] at HW0
 have HM0:Hid (Mix a b f f0):=U (by rw[hf0];exact FQ f O0 O0)
 clear hf0
 obtain⟨c,hc⟩:∃c,b=c+1:=⟨b-1,O0⟩
 subst hc
 go_enter Tryz.func128,Tryz.ntmps128
 go_wp2_with fail
 go_region
 clear x0 x1 x2 x3 y0 y1 y2 y3 u0 u1 u2 u3 v0 v1 v2 v3 q0 q1 q2 q3
 have hwc:IntKind.i64.wrap (c:Int)=(c:Int):=by rw[IntKind.wrap_i64];omega
 go_wp2_with fail
 obtain⟨g,hg⟩:=Rm (f0)
 have HS:Hid _:=HW0
 have HM:=HM0
 rw[<-hg] at HM HS
 clear HW0 HM0 hg
 have HPI:Hid (PI key a (c+1) (a+1) c g):=U ⟨Nat.le_refl _,O0,O0,fun k k1 k2=>O0,fun k k1 k2=>O0⟩
 go_wp2_with fail
 go_loopw [12] (fun v wr=>∃i:Nat,v= .int .i64 i/\St base blk n w0 key Ok wr g/\PI key a (c+1) i c g/\a+1<=i) (fun v _=>c+1-(intOf v).toNat)
 case atStart=>exact⟨_,by go_num,HS.out,HPI.out,Nat.le_refl _⟩
 case round=>
  obtain⟨i,rfl,hst,hpi,hii⟩:=hrel
  have h1:=hpi.ai;have h2:=hpi.ij;have h3:=hpi.jb
  have HS1:=U hst;have HPI1:=U hpi
  clear hst hpi
  obtain⟨p,hp⟩:=Rm (decide (i<=c/\key (g i)<key (g a)))
  have HP:=U hp
  clear hp
  go_upto_region 3 with fail
  go_cut [47] from 32 to 47 (fun z wx=>z= .bool p/\St base blk n w0 key Ok wx g)
  case first =>
   by_cases hgd:i<=c
   ·have hgz : (i : Int) <= (c : Int) := O0
    exact M102
   ·have hgz : ¬ (i : Int) <= (c : Int) := O0
    exact M71
  case rest=>
   obtain⟨rfl,hst⟩:=hcut
   have HS2:=U hst
   clear hst HS1
   cases p with
   | true=>
    have hpp:=of_decide_eq_true HP.out.symm
    have HPI2 : Hid (PI key a (c + 1) (i + 1) c g) := U ⟨O0, O0, h3, fun k k1 k2 => by
     by_cases q:k=i
     ·rw[q];exact hpp.2
     ·exact HPI1.out.lo k k1 O0,HPI1.out.hi⟩
    exact M154
   | false=>
    have HNI:Hid (i<=c->¬key (g i)<key (g a)):=U fun q1 q2=>(of_decide_eq_false HP.out.symm) ⟨q1,q2⟩
    clear HP
    go_wp2_with fail
    have HPJ:=HPI1
    go_loopw [13] (fun v wr=>∃j:Nat,v= .int .i64 j/\St base blk n w0 key Ok wr g/\PI key a (c+1) i j g/\j<=c) (fun v _=>(intOf v).toNat)
    case atStart=>exact⟨_,by go_num,HS2.out,HPJ.out,Nat.le_refl _⟩
    case round=>
     obtain⟨j,rfl,hst,hpi,hjj⟩:=hrel
     clear h2 h3 HS2
     have h2:=hpi.ij;have h3:=hpi.jb
     have HS3:=U hst;have HPI3:=U hpi
     clear hst hpi
     obtain⟨p,hp⟩:=Rm (decide (i<=j/\¬key (g j)<key (g a)))
     have HP:=U hp
     clear hp
     go_upto_region 5 with fail
     go_cut [66] from 50 to 66 (fun z wx=>z= .bool p/\St base blk n w0 key Ok wx g)
     case first =>
      exact M39
     case rest=>
      obtain⟨rfl,hst⟩:=hcut
      have HS4:=U hst
      clear hst HS3
      cases p with
      | true=>
       exact M57
      | false=>
       have HNJ:Hid (i<=j->key (g j)<key (g a)):=U fun q1=>Classical.byContradiction fun q2=>(of_decide_eq_false HP.out.symm) ⟨q1,q2⟩
       clear HP
       by_cases hgt:j<i
       ·exact M49
       ·have hlo := HNJ.out O0
        have hne:i≠j:=fun e=>HNI.out O0 (by rw[e];exact hlo)
        have hhi:key (g a)<key (g i):=by
         exact M132
        obtain⟨jp,rfl⟩:∃jp,j=jp+1:=⟨j-1,O0⟩
        have HPS:Hid (PI key a (c+1) (i+1) jp (sw g i (jp+1))):=U (HPI3.out.swap O0 hlo hhi)
        have HMS:Hid (Mix a (c+1) f (sw g i (jp+1))):=U (HM.out.trans (FQ g O0 O0))
        have hwp:IntKind.i64.wrap (jp:Int)=(jp:Int):=by rw[IntKind.wrap_i64];omega
        have hgz:¬(jp:Int)+1<(i:Int):=O0
        have hgn:¬jp+1<i:=O0
        have hjz:(jp:Int)+1<(n:Int):=O0
        have hiz:(i:Int)<(n:Int):=O0
        clear hlo hne hhi HNI HNJ
        obtain⟨x,hx⟩:=Rm (g i)
        obtain⟨y,hy⟩:=Rm (g (jp+1))
        obtain⟨xf,xi,xn,xa⟩:=x
        obtain⟨yf,yi,yn,ya⟩:=y
        obtain⟨⟨⟨x0,x1,x2,x3⟩,y0,y1,y2,y3⟩,⟨⟨u0,u1,u2,u3⟩,v0,v1,v2,v3⟩,⟨q0,q1,q2,q3⟩,hsw⟩:=HS4.out.swp (i:=i) (j:=jp+1) (show i<n by omega) (show jp+1<n by omega) hx.symm hy.symm
        have HW:=U hsw
        clear hsw
        clear hx hy
        open Q723 in exact Re):p:=h
theorem part_any (hE:Env base blk n w0 mb key Ok)(a b pv:Nat)(hap:a<=pv)(hpb:pv<b)(hb:b<=n)(cap:Nat)(hcap:n<=cap/\cap<=maxLen)(h:St base blk n w0 key Ok W f) :
  Calls Tryz.prog 128 #[.slice (some ⟨blk,0,none⟩) n cap,.int .i64 a,.int .i64 b,.int .i64 pv,.func (.func 46) #[.map (some mb)] #[]] W fun e w'=>∃(mid:Nat) (ap:Bool) (g:Nat->RF),e= .returned (.tuple #[.int .i64 mid,.bool ap])/\a<=mid/\mid<b/\St base blk n w0 key Ok w' g/\Mix a b f g/\(∀k,a<=k->k<mid->key (g k)<key (g mid))/\∀k,mid<k->k<b->key (g mid)<key (g k):=by
 open Q572 in exact KM
def Hp (key:RF->Nat)(q lo hi:Nat)(g:Nat->RF):Prop:=∀k,lo<=k->∀c,(c=2*k+1\/c=2*k+2)->c<hi->key (g (q+c))<key (g (q+k))
structure Hr (key : RF -> Nat) (q lo hi r : Nat) (g : Nat -> RF) : Prop where
 le:lo<=r
 rest:∀k,lo<=k->k≠r->∀c,(c=2*k+1\/c=2*k+2)->c<hi->key (g (q+c))<key (g (q+k))
 up:∀p,lo<=p->(r=2*p+1\/r=2*p+2)->∀c,(c=2*r+1\/c=2*r+2)->c<hi->key (g (q+c))<key (g (q+p))
theorem Hr.start {q lo hi:Nat}(h:Hp key q (lo+1) hi g):Hr key q lo hi lo g:=
 ⟨Nat.le_refl _,fun k h1 h2=>h k O0,fun p h1 h2=>O0⟩
theorem Hr.done {q lo hi r:Nat}(h:Hr key q lo hi r g)(hc:∀c,(c=2*r+1\/c=2*r+2)->c<hi->key (g (q+c))<key (g (q+r))):Hp key q lo hi g:=fun k h1 c h2 h3=>by
 by_cases e:k=r
 ·subst e;exact hc c h2 h3
 ·exact h.rest k h1 e c h2 h3
theorem JE (f:Nat->RF)(i j:Nat):sw f i j i=f j:=by unfold sw;rw[if_pos rfl]
theorem sw_r (f:Nat->RF)(i j:Nat):sw f i j j=f i:=by
 unfold sw;split
 ·next e=>rw[e]
 ·rw[if_pos rfl]
theorem Px (f:Nat->RF){i j k:Nat}(h1:k≠i)(h2:k≠j):sw f i j k=f k:=by unfold sw;rw[if_neg h1,if_neg h2]
theorem Hr.step {q lo hi r d:Nat}(h:Hr key q lo hi r g)(hd:d=2*r+1\/d=2*r+2)(hdh:d<hi)(hlt:key (g (q+r))<key (g (q+d)))(hc:∀c,(c=2*r+1\/c=2*r+2)->c<hi->c≠d->key (g (q+c))<key (g (q+d))):Hr key q lo hi d (sw g (q+r) (q+d)):=by
 have hle:=h.le
 refine⟨O0,fun k h1 h2 c h3 h4=> ?_,fun p h1 h2 c h3 h4=> ?_⟩
 ·by_cases e : k = r
  ·subst e
   rw[JE]
   by_cases e2:c=d
   ·subst e2;rw[sw_r];exact hlt
   ·rw[Px g O0 O0];exact hc c h3 h4 e2
  ·rw [Px g (k := q + k) O0 O0]
   by_cases e2:c=r
   ·subst e2;rw[JE];exact h.up k h1 h3 d hd hdh
   ·rw[Px g O0 O0];exact h.rest k h1 e c h3 h4
 ·have e : p = r := O0
  subst e
  rw[JE,Px g O0 O0]
  exact h.rest d O0 O0 c h3 h4
theorem M537 (h:p:=by
 go_wp2_with fail
 go_quiet_grown (first | (go_at_call 46;refine Calls.grown_of (hcg _ _)))
 have HQ:=U (HS2.out.later (DF wc nq osq))
 generalize hwq:grow (wc.drewN (GrownBy.mk nq osq).n) (GrownBy.mk nq osq).os=wq
 rw[show grow (wc.drewN nq) osq=wq from hwq] at HQ
 clear hwq hcg x0 x1 x2 x3 y0 y1 y2 y3
 exact Y537):p:=h
theorem M178 (h:p:=by
 rename (!decide _)=false=>hx
 exact absurd hx (by simp;omega)):p:=h
theorem Q540.Y537 (h:p:=by
 go_wp2_with fail
 ·try simp only [Exit.inBlock, Exit.then]
  refine bodyPost_ret (results_none rfl _ _ _) rfl ?_
  exact⟨⟨_,rfl⟩,g,HQ.out,HMX.out,HHP.out⟩
 ·exact M178):p:=h
theorem M61 (h:p:=by
 clear hge hgt
 open Q540 in exact M537):p:=h
theorem Q726.Y722 (h:p:=by
 go_roundw
 case rel=>exact⟨d,_,by go_num,HW.out,HMX2.out,HR2.out,.inl hdh⟩
 case measure=>(simp[intOf];try omega)):p:=h
theorem Q538.Y537 (h:p:=by
 obtain⟨⟨⟨x0,x1,x2,x3⟩,y0,y1,y2,y3⟩,⟨⟨u0,u1,u2,u3⟩,v0,v1,v2,v3⟩,⟨q0,q1,q2,q3⟩,hsw⟩:=HQ.out.swp (i:=er) (j:=ed) hrn2 hen HX.out HY.out
 have HW:=U hsw
 clear hsw
 open Q726 in exact Re):p:=h
theorem Q470.Y464 (h:p:=by
 by_cases hlt2:cv<0
 ·have hkl := HCV.out.1 hlt2
  have HR2:Hid (Hr key q lo hi d (sw g er ed)):=U (by
   rw[HER.out,HEd.out] at hkl ⊢
   exact HR.out.step HDR.out hdh hkl HSB.out)
  have HMX2:Hid (Mix q (q+hi) f (sw g er ed)):=U (HMX.out.trans (FQ g (by have:=HER.out;omega) (by have:=HEd.out;omega)))
  clear hkl
  open Q538 in exact M537
 ·have hge := fun z => hlt2 (HCV.out.2 z)
  have hgt:key (g ed)<key (g er):=by
   rcases Nat.lt_trichotomy (key (g er)) (key (g ed)) with z|z|z
   ·exact absurd z hge
   ·exact absurd (HS2.out.dist _ _ hrn2 hen z) NRD.out
   ·exact z
  have HHP:Hid (Hp key q lo hi g):=U (by
   rw[HER.out,HEd.out] at hgt
   exact HR.out.done fun k k1 k2=>by
    by_cases e:k=d
    ·rw[e];exact hgt
    ·exact Nat.lt_trans (HSB.out k k1 k2 e) hgt)
  exact M61):p:=h
theorem Q727.Y722 (h:p:=by
 go_roundw
 case rel=>exact⟨c,_,by go_num,HW.out,HMX2.out,HR2.out,.inl hdh⟩
 case measure=>(simp[intOf];try omega)):p:=h
theorem Q539.Y537 (h:p:=by
 obtain⟨⟨⟨x0,x1,x2,x3⟩,y0,y1,y2,y3⟩,⟨⟨u0,u1,u2,u3⟩,v0,v1,v2,v3⟩,⟨q0,q1,q2,q3⟩,hsw⟩:=HQ.out.swp (i:=er) (j:=ec) hrn2 hen HX.out HY.out
 have HW:=U hsw
 clear hsw
 open Q727 in exact Re):p:=h
theorem Q471.Y464 (h:p:=by
 by_cases hlt2:cv<0
 ·have hkl := HCV.out.1 hlt2
  have HR2:Hid (Hr key q lo hi c (sw g er ec)):=U (by
   rw[HER.out,HEc.out] at hkl ⊢
   exact HR.out.step HDR.out hdh hkl HSB.out)
  have HMX2:Hid (Mix q (q+hi) f (sw g er ec)):=U (HMX.out.trans (FQ g (by have:=HER.out;omega) (by have:=HEc.out;omega)))
  clear hkl
  open Q539 in exact M537
 ·have hge := fun z => hlt2 (HCV.out.2 z)
  have hgt:key (g ec)<key (g er):=by
   rcases Nat.lt_trichotomy (key (g er)) (key (g ec)) with z|z|z
   ·exact absurd z hge
   ·exact absurd (HS2.out.dist _ _ hrn2 hen z) NRC.out
   ·exact z
  have HHP:Hid (Hp key q lo hi g):=U (by
   rw[HER.out,HEc.out] at hgt
   exact HR.out.done fun k k1 k2=>by
    by_cases e:k=c
    ·rw[e];exact hgt
    ·exact Nat.lt_trans (HSB.out k k1 k2 e) hgt)
  exact M61):p:=h
theorem sift_any (hE:Env base blk n w0 mb key Ok)(q lo hi:Nat)(hb:q+hi<=n)(hlo:lo<=n)(cap:Nat)(hcap:n<=cap/\cap<=maxLen)(h:St base blk n w0 key Ok W f)(hh:Hp key q (lo+1) hi f) :
  Calls Tryz.prog 152 #[.slice (some ⟨blk,0,none⟩) n cap,.int .i64 lo,.int .i64 hi,.int .i64 q,.func (.func 46) #[.map (some mb)] #[]] W fun e w'=>(∃v,e= .returned v)/\∃g,St base blk n w0 key Ok w' g/\Mix q (q+hi) f g/\Hp key q lo hi g:=by
 have HE:=U hE;have HST:=U h;have HH:=U hh
 have hn:=hE.len
 obtain⟨hc1,hc2⟩:=hcap
 simp only[maxLen] at hc2
 have mx:=mixed
 clear h hE hh
 go_enter Tryz.func152,Tryz.ntmps152
 go_wp2_with fail
 go_loopw [10] (fun v wr=>∃(r:Nat) (g:Nat->RF),v= .int .i64 r/\St base blk n w0 key Ok wr g/\Mix q (q+hi) f g/\Hr key q lo hi r g/\(r<hi\/r=lo)) (fun v _=>hi-(intOf v).toNat)
 case atStart=>exact⟨_,_,by go_num,HST.out,Mix.refl _ _ _,Hr.start HH.out,.inr rfl⟩
 case round=>
  obtain⟨r,g,rfl,hst,hmx,hhr,hrh⟩:=hrel
  have HS1:=U hst;have HMX:=U hmx;have HR:=U hhr
  clear hst hmx hhr HST HH
  have hrn:r<=n:=O0
  obtain⟨c,hcr⟩:=Rm (2*r+1)
  have hcz:2*(r:Int)+1=(c:Int):=O0
  by_cases hch:c<hi
  ·have HC := U hcr
   have hnn:¬(hi:Int)<=(c:Int):=O0
   have hnn2:¬hi<=c:=O0
   obtain⟨d,hd⟩:=Rm (c+1)
   obtain⟨er,her⟩:=Rm (q+r)
   obtain⟨ec,hec⟩:=Rm (q+c)
   obtain⟨ed,hed⟩:=Rm (q+d)
   have wcd:IntKind.i64.wrap ((c:Int)+1)=(d:Int):=by rw[IntKind.wrap_i64]<;>omega
   have wec:IntKind.i64.wrap ((q:Int)+(c:Int))=(ec:Int):=by rw[IntKind.wrap_i64]<;>omega
   have we1:IntKind.i64.wrap ((ec:Int)+1)=(ed:Int):=by rw[IntKind.wrap_i64]<;>omega
   have wed:IntKind.i64.wrap ((q:Int)+(d:Int))=(ed:Int):=by rw[IntKind.wrap_i64]<;>omega
   have wer:IntKind.i64.wrap ((q:Int)+(r:Int))=(er:Int):=by rw[IntKind.wrap_i64]<;>omega
   have hrn2:er<n:=O0
   have hcn:ec<n:=O0
   have hdn:d<hi->ed<n:=O0
   have hrz:(er:Int)<(n:Int):=O0
   have hcz2:(ec:Int)<(n:Int):=O0
   have hrh2:r<hi:=O0
   have hrc:r<c:=O0
   have hrd:r<d:=O0
   have nrc:er≠ec:=O0
   have nrd:er≠ed:=O0
   have ncd:ec≠ed:=O0
   have HDN:=U hdn;have NRC:=U nrc;have NRD:=U nrd;have NCD:=U ncd
   have HD:=U hd;have HER:=U her;have HEC:=U hec;have HED:=U hed
   clear hcr hd her hec hed hdn nrc nrd ncd
   obtain⟨p,hp⟩:=Rm (decide (d<hi/\key (g ec)<key (g ed)))
   have HP:=U hp
   clear hp
   go_upto_region 3 with fail
   go_cut [40] from 19 to 40 (fun z wx=>z= .bool p/\St base blk n w0 key Ok wx g)
   case first =>
    by_cases hgd:d<hi
    ·have hgz : (d : Int) < (hi : Int) := O0
     have hen:ed<n:=HDN.out hgd
     have hez:(ed:Int)<(n:Int):=O0
     obtain⟨xf,xi,xn,xa,yf,yi,yn,ya,cv,hx,hy,hcv,hcl,hcg⟩:=HS1.out.cmp HE.out (i:=ec) (j:=ed) hcn hen
     exact M42
    ·have hgz : ¬ (d : Int) < (hi : Int) := O0
     exact M71
   case rest=>
    obtain⟨rfl,hst⟩:=hcut
    rename World=>wc
    have HS2:=U hst
    clear hst HS1
    cases p with
    | true=>
     have hpp:=of_decide_eq_true HP.out.symm
     have hdh:d<hi:=hpp.1
     have hen:ed<n:=HDN.out hdh
     have hez:(ed:Int)<(n:Int):=O0
     have HDR:Hid (d=2*r+1\/d=2*r+2):=U (by have:=HC.out;have:=HD.out;omega)
     have HSB:Hid (∀k,(k=2*r+1\/k=2*r+2)->k<hi->k≠d->key (g (q+k))<key (g (q+d))):=U fun k k1 k2 k3=>by
      have e:k=c:=by have:=HC.out;have:=HD.out;omega
      rw[e, <-HEC.out, <-HED.out];exact hpp.2
     have HEd:=HED
     clear hpp
     obtain⟨xf,xi,xn,xa,yf,yi,yn,ya,cv,hx,hy,hcv,hcl,hcg⟩:=HS2.out.cmp HE.out (i:=er) (j:=ed) hrn2 hen
     open Q470 in exact Vw
    | false=>
     have hpp:=of_decide_eq_false HP.out.symm
     have hdh:=hch
     have hen:=hcn
     have HDR:Hid (c=2*r+1\/c=2*r+2):=U (.inl HC.out)
     have HSB:Hid (∀k,(k=2*r+1\/k=2*r+2)->k<hi->k≠c->key (g (q+k))<key (g (q+c))):=U fun k k1 k2 k3=>by
      have e:k=d:=by have:=HC.out;have:=HD.out;omega
      rw[e] at k2 ⊢
      rw[<-HEC.out, <-HED.out]
      rcases Nat.lt_trichotomy (key (g ed)) (key (g ec)) with z|z|z
      ·exact z
      ·exact absurd (HS2.out.dist _ _ (HDN.out k2) hcn z).symm NCD.out
      ·exact absurd ⟨k2,z⟩ hpp
     have HEc:=HEC
     clear hpp
     obtain⟨xf,xi,xn,xa,yf,yi,yn,ya,cv,hx,hy,hcv,hcl,hcg⟩:=HS2.out.cmp HE.out (i:=er) (j:=ec) hrn2 hen
     open Q471 in exact Vw
  ·have hnn : (hi : Int) <= (c : Int) := O0
   have HHP:=U (HR.out.done fun k k1 k2=>absurd k2 O0)
   have HC:=U hcr
   clear hcr
   go_wp2_with fail
   refine bodyPost_end (results_none rfl _ _ _) rfl ?_
   exact⟨⟨_,rfl⟩,g,HS1.out,HMX.out,HHP.out⟩
structure Pop (key : RF -> Nat) (q m i : Nat) (g : Nat -> RF) : Prop where
 heap:Hp key q 0 i g
 back:∀p r,i<=r->r<m->p<r->key (g (q+p))<key (g (q+r))
theorem Hp.top {q i:Nat}(h:Hp key q 0 i g):∀k,k<i->0<k->key (g (q+k))<key (g (q+0)):=by
 intro k
 induction k using Nat.strongRecOn with
 | _ k ih=>
  intro h1 h2
  have hp:=h ((k-1)/2) (Nat.zero_le _) k O0 h1
  by_cases e:(k-1)/2=0
  ·rw[e] at hp;exact hp
  ·exact Nat.lt_trans hp (ih ((k-1)/2) O0 O0 O0)
theorem Pop.step {q m i:Nat}(h:Pop key q m (i+1) g)(hi:i<m):Hp key q 1 i (sw g q (q+i))/\∀p r,i<=r->r<m->p<r->key (sw g q (q+i) (q+p))<key (sw g q (q+i) (q+r)):=by
 refine⟨fun k k1 c c1 c2=> ?_,fun p r h1 h2 h3=> ?_⟩
 ·rw [Px g O0 O0, Px g O0 O0]
  exact h.heap k (Nat.zero_le _) c c1 O0
 ·have hv:∀p,p<i->key (sw g q (q+i) (q+p))<key (g q)/\0<i:=fun p hp=>by
   refine⟨?_,O0⟩
   by_cases e:p=0
   ·subst e;rw[Nat.add_zero,JE];exact h.heap.top i O0 O0
   ·rw[Px g O0 O0];exact h.heap.top p O0 O0
  by_cases e:r=i
  ·subst e
   rw[sw_r]
   exact(hv p h3).1
  ·rw [Px g (k := q + r) O0 O0]
   have hq:∀s,s<r->key (g (q+s))<key (g (q+r)):=fun s hs=>h.back s r O0 h2 hs
   by_cases e1:p=0
   ·subst e1;rw[Nat.add_zero,JE];exact hq i O0
   ·by_cases e2 : p = i
    ·subst e2;rw[sw_r];have:=hq 0 O0;rwa [Nat.add_zero] at this
    ·rw[Px g O0 O0];exact hq p h3
theorem Pop.mix {q m i:Nat}{g g':Nat->RF}(hm:Mix q (q+i) g g')(hb:∀p r,i<=r->r<m->p<r->key (g (q+p))<key (g (q+r)))(hh:Hp key q 0 i g'):Pop key q m i g':=
 ⟨hh,fun p r h1 h2 h3=>by
  rw[hm.out (k:=q+r) O0]
  by_cases e:p<i
  ·obtain ⟨l, l1, l2, l3⟩ := hm.in_ (k := q + p) O0 O0
   rw[l3]
   have:=hb (l-q) r h1 h2 O0
   rwa [show q+(l-q)=l by omega] at this
  ·rw[hm.out (k:=q+p) O0];exact hb p r h1 h2 h3⟩
theorem M142 (h:p:=by
 clear hst' hmx' hhp'
 go_roundw
 case rel=>exact⟨(jp:Int)-1,jp,g',by go_num,O0,O0,HW2.out,HM4.out,HP4.out⟩
 case measure=>(simp[intOf];try omega)):p:=h
theorem Q603.Y602 (h:p:=by
 go_wp2_with (first | (go_at_call 152;refine(HCS.out _ _ 0 jp O0 (Nat.zero_le _) HW.out HX2.out.1).mono ?_;rintro e w' ⟨⟨v,rfl⟩,g',hst',hmx',hhp'⟩))
 have HW2:=U hst'
 have HM4:Hid (Mix a b f g'):=U (HMX3.out.trans (hmx'.mono (Nat.le_refl _) (by have:=HT.out;omega)))
 have HP4:Hid (Pop key a hi jp g'):=U (Pop.mix hmx' HX2.out.2 hhp')
 exact M142):p:=h
theorem Q573.Y570 (h:p:=by
 obtain⟨m,hm⟩:∃m,b=a+(m+1):=⟨b-a-1,O0⟩
 obtain⟨hi,hhi⟩:=Rm (m+1)
 obtain⟨t,ht⟩:=Rm (m/2)
 have hCS:∀(W:World) (f:Nat->RF) (lo i:Nat),i<=hi->lo<=hi->St base blk n w0 key Ok W f->Hp key a (lo+1) i f->Calls Tryz.prog 152 #[.slice (some ⟨blk,0,none⟩) n cap,.int .i64 lo,.int .i64 i,.int .i64 a,.func (.func 46) #[.map (some mb)] #[]] W fun e w'=>(∃v,e= .returned v)/\∃g,St base blk n w0 key Ok w' g/\Mix a (a+i) f g/\Hp key a lo i g:=fun W f lo i h1 h2 h3 h4=>sift_any HE.out a lo i O0 O0 cap ⟨hc1,by simp only[maxLen];exact hc2⟩ h3 h4
 have HCS:=U hCS
 have hsub:(b:Int)-(a:Int)=(hi:Int):=O0
 have hsub1:(hi:Int)-1=(m:Int):=O0
 have hdiv:(m:Int)/2=(t:Int):=O0
 have hmn:m<n:=O0
 have han:a<n:=O0
 have haz:(a:Int)<(n:Int):=O0
 have HS0:Hid (Hp key a (t+1) hi f):=U fun k k1 c k2 k3=>O0
 have HT:Hid (t<hi/\hi=m+1/\b=a+hi):=U ⟨O0,hhi,O0⟩
 clear hCS hm hhi ht
 go_enter Tryz.func122,Tryz.ntmps122
 go_wp2_with fail
 go_loopw [11] (fun v wr=>∃(z:Int) (j:Nat) (g:Nat->RF),v= .int .i64 z/\(j:Int)=z+1/\j<=t+1/\St base blk n w0 key Ok wr g/\Mix a b f g/\Hp key a j hi g) (fun v _=>(intOf v+1).toNat)
 case atStart=>exact⟨t,t+1,f,by go_num,O0,Nat.le_refl _,HST.out,Mix.refl _ _ _,HS0.out⟩
 case round=>
  obtain⟨z,j,g,rfl,hzj,hjt,hst,hmx,hhp⟩:=hrel
  have HS1:=U hst;have HMX:=U hmx;have HHP:=U hhp
  clear hst hmx hhp HST HS0
  by_cases hj:j=0
  ·have hz : z = -1 := O0
   subst hz hj
   have HPOP:Hid (Pop key a hi hi g):=U ⟨HHP.out,fun p r h1 h2 h3=>O0⟩
   clear hzj hjt HHP
   go_wp2_with fail
   go_loopw [12] (fun v wr=>∃(z:Int) (j:Nat) (g:Nat->RF),v= .int .i64 z/\(j:Int)=z+1/\j<=hi/\St base blk n w0 key Ok wr g/\Mix a b f g/\Pop key a hi j g) (fun v _=>(intOf v+1).toNat)
   case atStart=>exact⟨m,hi,g,by go_num,by have:=HT.out;omega,Nat.le_refl _,HS1.out,HMX.out,HPOP.out⟩
   case round=>
    obtain⟨z,j,g,rfl,hzj,hjh,hst,hmx,hpop⟩:=hrel
    have HS2:=U hst;have HMX2:=U hmx;have HPOP2:=U hpop
    clear hst hmx hpop HS1 HMX HPOP
    by_cases hj:j=0
    ·have hz : z = -1 := O0
     subst hz hj
     have HSR:Hid (Srt key a b g):=U fun p r h1 h2 h3=>by
      have:=HPOP2.out.back (p-a) (r-a) (Nat.zero_le _) (by have:=HT.out;omega) O0
      rwa [show a+(p-a)=p by omega,show a+(r-a)=r by omega] at this
     go_wp2_with fail
     refine bodyPost_end (results_none rfl _ _ _) rfl ?_
     exact⟨⟨_,rfl⟩,g,HS2.out,HMX2.out,HSR.out⟩
    ·obtain ⟨jp, rfl⟩ : ∃ jp, j = jp + 1 := ⟨j - 1, O0⟩
     have hz:z=(jp:Int):=O0
     subst hz
     clear hzj hj
     obtain⟨ej,hej⟩:=Rm (a+jp)
     have wej:IntKind.i64.wrap ((a:Int)+(jp:Int))=(ej:Int):=by rw[IntKind.wrap_i64]<;>(have:=HT.out;omega)
     have hen:ej<n:=by have:=HT.out;omega
     have hez:(ej:Int)<(n:Int):=O0
     have hjg:(0:Int)<=(jp:Int):=O0
     have HX2:=U (HPOP2.out.step O0)
     rw[<-hej] at HX2
     have HMX3:Hid (Mix a b f (sw g a ej)):=U (HMX2.out.trans (FQ g (by have:=HT.out;omega) (by have:=HT.out;omega)))
     have HEJ:=U hej
     clear hej
     obtain⟨x,hx⟩:=Rm (g a)
     obtain⟨y,hy⟩:=Rm (g ej)
     obtain⟨xf,xi,xn,xa⟩:=x
     obtain⟨yf,yi,yn,ya⟩:=y
     obtain⟨⟨⟨x0,x1,x2,x3⟩,y0,y1,y2,y3⟩,⟨⟨u0,u1,u2,u3⟩,v0,v1,v2,v3⟩,⟨q0,q1,q2,q3⟩,hsw⟩:=HS2.out.swp (i:=a) (j:=ej) han hen hx.symm hy.symm
     open Q603 in exact Rf
  ·obtain ⟨jp, rfl⟩ : ∃ jp, j = jp + 1 := ⟨j - 1, O0⟩
   have hz:z=(jp:Int):=O0
   subst hz
   have hjg:(0:Int)<=(jp:Int):=O0
   clear hzj hj
   go_wp2_with (first | (go_at_call 152;refine(HCS.out _ _ jp hi (Nat.le_refl _) (by have:=HT.out;omega) HS1.out HHP.out).mono ?_;rintro e w' ⟨⟨v,rfl⟩,g',hst',hmx',hhp'⟩))
   have HW2:=U hst'
   have HM4:Hid (Mix a b f g'):=U (HMX.out.trans (hmx'.mono (Nat.le_refl _) (by have:=HT.out;omega)))
   have HP4:=U hhp'
   exact M142):p:=h
theorem heap_any (hE : Env base blk n w0 mb key Ok) (a b : Nat) (hab : a < b) (hb : b <= n) (cap : Nat) (hcap : n <= cap /\ cap <= maxLen) (h : St base blk n w0 key Ok W f) : 
  Calls Tryz.prog 122 #[.slice (some ⟨blk,0,none⟩) n cap,.int .i64 a,.int .i64 b,.func (.func 46) #[.map (some mb)] #[]] W fun e w'=>(∃v,e= .returned v)/\∃g,St base blk n w0 key Ok w' g/\Mix a b f g/\Srt key a b g:=by
 open Q573 in exact KM
structure Cn (base blk : Nat) (W : World) (sb : Nat) : Prop where
 lt:sb<W.heap.size
 ge:base<=sb
 ne:sb≠blk
 cell:∃c:Int,W.cell? ⟨sb,0,none⟩=some (.int .i64 c)
 fz:W.frozen? ⟨sb,0,none⟩=false
theorem Cn.later {sb:Nat}(h:Cn base blk W sb)(hb:Below W.heap.size W W'):Cn base blk W' sb:=
 ⟨Nat.lt_of_lt_of_le h.lt hb.size,h.ge,h.ne,h.cell.elim fun c hc=>⟨c,(hb.cell (p:=⟨sb,0,none⟩) h.lt).trans hc⟩,(hb.frozen (p:=⟨sb,0,none⟩) h.lt).trans h.fz⟩
theorem Cn.set {sb:Nat}(h:Cn base blk W sb)(c:Int):Cn base blk (W.setCell ⟨sb,0,none⟩ (.int .i64 c)) sb:=
 ⟨by simp only[World.size_setCell];exact h.lt,h.ge,h.ne,⟨c,h.cell.elim fun d hd=>World.cell?_setCell_same' _ _ _ (by rw[hd];rfl)⟩,by simp only[World.frozen?_setCell];exact h.fz⟩
theorem St.set {sb:Nat}(h:St base blk n w0 key Ok W f)(hc:base<=sb)(hn:sb≠blk)(o:Nat)(v:Value):St base blk n w0 key Ok (W.setCell ⟨sb,o,none⟩ v) f:=
 ⟨⟨by simp only[World.size_setCell];exact h.row.lt,h.row.ge,fun i hi q hq=>by rw[World.cell?_setCell_other _ _ _ _ (fun e=>hn (by cases e;rfl))];exact h.row.cell i hi q hq,fun o ho=>by simp only[World.frozen?_setCell];exact h.row.fz o ho⟩,h.below.setCell hc v,h.ok,h.dist⟩
theorem Q466.Y464 (h:p:=by
 go_enter Tryz.func175,Tryz.ntmps175
 go_wp2_with fail
 go_quiet_grown (first | (go_at_call 46;refine Calls.grown_of (hcg _ _)))
 have HC2:=U (HCN.out.later (DF wr nq osq))
 have HQ:=U (HST.out.later (DF wr nq osq))
 generalize hwq:grow (wr.drewN (GrownBy.mk nq osq).n) (GrownBy.mk nq osq).os=wq
 rw[show grow (wr.drewN nq) osq=wq from hwq] at HQ HC2
 clear hwq hcg x0 x1 x2 x3 y0 y1 y2 y3
 by_cases hlt:cv<0
 ·obtain ⟨c, hc⟩ := HC2.out.cell
  have hf:=HC2.out.fz
  have HQ3:=U (HQ.out.set HC2.out.ge HC2.out.ne 0 (.int .i64 (wrap64 (c+1))))
  have HC3:=U (HC2.out.set (wrap64 (c+1)))
  go_wp2_with fail
  go_ret2
  exact⟨j,i,rfl,.inr ⟨rfl,rfl⟩,HQ3.out,HC3.out⟩
 ·go_wp2_with fail
  go_ret2
  exact⟨i,j,rfl,.inl ⟨rfl,rfl⟩,HQ.out,HC2.out⟩):p:=h
theorem JY (hE:Env base blk n w0 mb key Ok)(i j sb:Nat)(hi:i<n)(hj:j<n)(cap:Nat)(hcap:n<=cap/\cap<=maxLen)(h:St base blk n w0 key Ok W f)(hs:Cn base blk W sb) :
  Calls Tryz.prog 175 #[.slice (some ⟨blk,0,none⟩) n cap,.int .i64 i,.int .i64 j,.pointer (some ⟨sb,0,none⟩),.func (.func 46) #[.map (some mb)] #[]] W fun e w'=>∃x y:Nat,e= .returned (.tuple #[.int .i64 x,.int .i64 y])/\(x=i/\y=j\/x=j/\y=i)/\St base blk n w0 key Ok w' f/\Cn base blk w' sb:=by
 have HE:=U hE;have HST:=U h;have HCN:=U hs
 have hn:=hE.len
 obtain⟨hc1,hc2⟩:=hcap
 simp only[maxLen] at hc2
 have mx:=mixed
 clear h hE hs
 have hiz:(i:Int)<(n:Int):=O0
 have hjz:(j:Int)<(n:Int):=O0
 generalize hwr:W=wr at HST HCN ⊢
 clear hwr
 obtain⟨xf,xi,xn,xa,yf,yi,yn,ya,cv,hx,hy,hcv,hcl,hcg⟩:=HST.out.cmp HE.out (i:=j) (j:=i) hj hi
 open Q466 in exact Vw
theorem UO (hE:Env base blk n w0 mb key Ok)(lo hi i j k sb:Nat)(hhn:hi<=n)(hi1:lo<=i/\i<hi)(hj1:lo<=j/\j<hi)(hk1:lo<=k/\k<hi)(cap:Nat)(hcap:n<=cap/\cap<=maxLen)(h:St base blk n w0 key Ok W f)(hs:Cn base blk W sb) :
  Calls Tryz.prog 156 #[.slice (some ⟨blk,0,none⟩) n cap,.int .i64 i,.int .i64 j,.int .i64 k,.pointer (some ⟨sb,0,none⟩),.func (.func 46) #[.map (some mb)] #[]] W fun e w'=>∃x:Nat,e= .returned (.int .i64 x)/\(lo<=x/\x<hi)/\St base blk n w0 key Ok w' f/\Cn base blk w' sb:=by
 have HC:Hid (∀(W:World) (i j:Nat),lo<=i/\i<hi->lo<=j/\j<hi->St base blk n w0 key Ok W f->Cn base blk W sb->Calls Tryz.prog 175 #[.slice (some ⟨blk,0,none⟩) n cap,.int .i64 i,.int .i64 j,.pointer (some ⟨sb,0,none⟩),.func (.func 46) #[.map (some mb)] #[]] W fun e w'=>∃x y:Nat,e= .returned (.tuple #[.int .i64 x,.int .i64 y])/\((lo<=x/\x<hi)/\lo<=y/\y<hi)/\St base blk n w0 key Ok w' f/\Cn base blk w' sb):=U fun W i j h1 h2 h3 h4=>
  (JY hE i j sb O0 O0 cap hcap h3 h4).mono (by rintro e w' ⟨x,y,e,q,r⟩;exact⟨x,y,e,O0,r⟩)
 have HST:=U h;have HCN:=U hs
 have H1:=U hi1;have H2:=U hj1;have H3:=U hk1
 clear h hE hs hcap hi1 hj1 hk1 hhn
 go_enter Tryz.func156,Tryz.ntmps156
 go_wp2_with fail
 refine(HC.out _ i j H1.out H2.out HST.out HCN.out).mono ?_
 rintro e w1 ⟨i1,j1,rfl,h1,hst,hcn⟩
 have H11:=U h1.1;have H12:=U h1.2;have HS1:=U hst;have HC1:=U hcn
 clear h1 hst hcn
 go_wp2_with fail
 refine(HC.out _ j1 k H12.out H3.out HS1.out HC1.out).mono ?_
 rintro e w2 ⟨j2,k2,rfl,h1,hst,hcn⟩
 have H21:=U h1.1;have H22:=U h1.2;have HS2:=U hst;have HC2:=U hcn
 clear h1 hst hcn
 go_wp2_with fail
 refine(HC.out _ i1 j2 H11.out H21.out HS2.out HC2.out).mono ?_
 rintro e w3 ⟨i3,j3,rfl,h1,hst,hcn⟩
 have H31:=U h1.1;have H32:=U h1.2;have HS3:=U hst;have HC3:=U hcn
 clear h1 hst hcn
 go_wp2_with fail
 go_ret
 exact⟨j3,rfl,H32.out,HS3.out,HC3.out⟩
theorem XK (hE:Env base blk n w0 mb key Ok)(lo hi i sb:Nat)(hhn:hi<=n)(hi1:lo<i/\i+1<hi)(cap:Nat)(hcap:n<=cap/\cap<=maxLen)(h:St base blk n w0 key Ok W f)(hs:Cn base blk W sb) :
  Calls Tryz.prog 155 #[.slice (some ⟨blk,0,none⟩) n cap,.int .i64 i,.pointer (some ⟨sb,0,none⟩),.func (.func 46) #[.map (some mb)] #[]] W fun e w'=>∃x:Nat,e= .returned (.int .i64 x)/\(lo<=x/\x<hi)/\St base blk n w0 key Ok w' f/\Cn base blk w' sb:=by
 obtain⟨i0,hi0⟩:=Rm (i-1)
 obtain⟨i2,hi2⟩:=Rm (i+1)
 have HC:=U (UO hE lo hi i0 i i2 sb hhn O0 O0 O0 cap hcap h hs)
 have hn:=hE.len
 have w1:IntKind.i64.wrap ((i:Int)-1)=(i0:Int):=by rw[IntKind.wrap_i64]<;>omega
 have w2:IntKind.i64.wrap ((i:Int)+1)=(i2:Int):=by rw[IntKind.wrap_i64]<;>omega
 clear h hE hs hcap hi1 hhn hi0 hi2
 go_enter Tryz.func155,Tryz.ntmps155
 go_wp2_with fail
 refine HC.out.mono ?_
 rintro e w1 ⟨x,rfl,h1,hst,hcn⟩
 have H1:=U h1;have HS1:=U hst;have HC1:=U hcn
 clear h1 hst hcn HC
 go_wp2_with fail
 go_ret
 exact⟨x,rfl,H1.out,HS1.out,HC1.out⟩
theorem Q606.Y602 (h:p:=by
 go_wp2_with fail
 go_roundw
 case rel=>exact⟨i+1,jp,_,by go_num,by go_num,O0,O0,HW.out,HMX3.out⟩
 case measure=>(simp[intOf];try omega)):p:=h
theorem Q574.Y570 (h:p:=by
 obtain⟨c,hc⟩:∃c,b=c+1:=⟨b-1,O0⟩
 subst hc
 have hwc:IntKind.i64.wrap (c:Int)=(c:Int):=by rw[IntKind.wrap_i64];omega
 go_enter Tryz.func125,Tryz.ntmps125
 go_wp2_with fail
 go_loopw [8,9] (fun v u wr=>∃(i j:Nat) (g:Nat->RF),v= .int .i64 i/\u= .int .i64 j/\a<=i/\j<=c/\St base blk n w0 key Ok wr g/\Mix a (c+1) f g) (fun v u _=>(intOf u).toNat-(intOf v).toNat)
 case atStart=>exact⟨a,c,f,by go_num,by go_num,Nat.le_refl _,Nat.le_refl _,HST.out,Mix.refl _ _ _⟩
 case round=>
  obtain⟨i,j,g,rfl,rfl,hai,hjc,hst,hmx⟩:=hrel
  have HS1:=U hst;have HMX:=U hmx
  clear hst hmx HST
  by_cases hij:i<j
  ·obtain ⟨jp, rfl⟩ : ∃ jp, j = jp + 1 := ⟨j - 1, O0⟩
   have hijz:(i:Int)<(jp:Int)+1:=O0
   have hin:i<n:=O0
   have hjn:jp+1<n:=O0
   have hiz:(i:Int)<(n:Int):=O0
   have hjz:(jp:Int)+1<(n:Int):=O0
   have p0:(0:Int)<=(jp:Int)+1:=O0
   have hwp:IntKind.i64.wrap (jp:Int)=(jp:Int):=by rw[IntKind.wrap_i64];omega
   have HMX3:Hid (Mix a (c+1) f (sw g i (jp+1))):=U (HMX.out.trans (FQ g O0 O0))
   obtain⟨x,hx⟩:=Rm (g i)
   obtain⟨y,hy⟩:=Rm (g (jp+1))
   obtain⟨xf,xi,xn,xa⟩:=x
   obtain⟨yf,yi,yn,ya⟩:=y
   obtain⟨⟨⟨x0,x1,x2,x3⟩,y0,y1,y2,y3⟩,⟨⟨u0,u1,u2,u3⟩,v0,v1,v2,v3⟩,⟨q0,q1,q2,q3⟩,hsw⟩:=HS1.out.swp (i:=i) (j:=jp+1) hin hjn hx.symm hy.symm
   open Q606 in exact Rf
  ·have hijz : ¬ (i : Int) < (j : Int) := O0
   go_wp2_with fail
   refine bodyPost_end (results_none rfl _ _ _) rfl ?_
   exact⟨⟨_,rfl⟩,g,HS1.out,HMX.out⟩):p:=h
theorem YA (hE : Env base blk n w0 mb key Ok) (a b : Nat) (hab : a < b) (hb : b <= n) (cap : Nat) (hcap : n <= cap /\ cap <= maxLen) (h : St base blk n w0 key Ok W f) : 
  Calls Tryz.prog 125 #[.slice (some ⟨blk,0,none⟩) n cap,.int .i64 a,.int .i64 b,.func (.func 46) #[.map (some mb)] #[]] W fun e w'=>(∃v,e= .returned v)/\∃g,St base blk n w0 key Ok w' g/\Mix a b f g:=by
 open Q574 in exact KM
theorem Cn.alloc (h:FRow base blk n W f)(c:Int):Cn base blk (W.alloc (Obj.cells #[Value.int IntKind.i64 c] 3)) W.heap.size:=
 ⟨O3,by have:=h.ge;have:=h.lt;omega,by have:=h.lt;omega,⟨c,O3⟩,O3⟩
theorem M76 (h:p:=by
 rintro e w5 ⟨p,rfl,hp,hst,hcn⟩
 have HP:=U hp;have HS9:=U hst
 obtain⟨c,hcc⟩:=hcn.cell
 clear hp hst hcn
 by_cases c0:c=0
 ·subst c0
  go_wp2_with fail
  go_ret2
  exact⟨p,1,rfl,HP.out,HS9.out⟩
 ·by_cases c12 : c = 12
  ·subst c12
   go_wp2_with fail
   go_ret2
   exact⟨p,2,rfl,HP.out,HS9.out⟩
  ·go_wp2_with fail
   go_ret2
   exact⟨p,0,rfl,HP.out,HS9.out⟩):p:=h
theorem Q575.Y570 (h:p:=by
 obtain⟨L,hL⟩:=Rm (b-a)
 obtain⟨t,ht⟩:=Rm (L/4)
 obtain⟨t2,ht2⟩:=Rm (t*2)
 obtain⟨t3,ht3⟩:=Rm (t*3)
 obtain⟨i,hi⟩:=Rm (a+t)
 obtain⟨j,hj⟩:=Rm (a+t2)
 obtain⟨k,hk⟩:=Rm (a+t3)
 have hCA:∀(W:World) (i sb:Nat),a<i/\i+1<b->St base blk n w0 key Ok W f->Cn base blk W sb->Calls Tryz.prog 155 #[.slice (some ⟨blk,0,none⟩) n cap,.int .i64 i,.pointer (some ⟨sb,0,none⟩),.func (.func 46) #[.map (some mb)] #[]] W fun e w'=>∃x:Nat,e= .returned (.int .i64 x)/\(a<=x/\x<b)/\St base blk n w0 key Ok w' f/\Cn base blk w' sb:=fun W i sb h1 h2 h3=>XK HE.out a b i sb hb h1 cap ⟨hc1,by simp only[maxLen];exact hc2⟩ h2 h3
 have hCM:∀(W:World) (i j k sb:Nat),a<=i/\i<b->a<=j/\j<b->a<=k/\k<b->St base blk n w0 key Ok W f->Cn base blk W sb->Calls Tryz.prog 156 #[.slice (some ⟨blk,0,none⟩) n cap,.int .i64 i,.int .i64 j,.int .i64 k,.pointer (some ⟨sb,0,none⟩),.func (.func 46) #[.map (some mb)] #[]] W fun e w'=>∃x:Nat,e= .returned (.int .i64 x)/\(a<=x/\x<b)/\St base blk n w0 key Ok w' f/\Cn base blk w' sb:=fun W i j k sb h0 h1 h2 h3 h4=>UO HE.out a b i j k sb hb h0 h1 h2 cap ⟨hc1,by simp only[maxLen];exact hc2⟩ h3 h4
 have HCA:=U hCA;have HCM:=U hCM
 have HI:Hid (a<i/\i+1<b):=U O0
 have HJ:Hid (a<j/\j+1<b):=U O0
 have HK:Hid (a<k/\k+1<b):=U O0
 have hsub:(b:Int)-(a:Int)=(L:Int):=O0
 have hdiv:(L:Int)/4=(t:Int):=O0
 have wt2:IntKind.i64.wrap ((t:Int)*2)=(t2:Int):=by rw[IntKind.wrap_i64]<;>omega
 have wt3:IntKind.i64.wrap ((t:Int)*3)=(t3:Int):=by rw[IntKind.wrap_i64]<;>omega
 have wi:IntKind.i64.wrap ((a:Int)+(t:Int))=(i:Int):=by rw[IntKind.wrap_i64]<;>omega
 have wj:IntKind.i64.wrap ((a:Int)+(t2:Int))=(j:Int):=by rw[IntKind.wrap_i64]<;>omega
 have wk:IntKind.i64.wrap ((a:Int)+(t3:Int))=(k:Int):=by rw[IntKind.wrap_i64]<;>omega
 have hL8:8<=L:=O0
 have hL8z:(8:Int)<=(L:Int):=O0
 clear hCA hCM hL ht ht2 ht3 hi hj hk
 go_enter Tryz.func124,Tryz.ntmps124
 go_upto_region 7 with fail
 obtain⟨sb,hsb⟩:=Rm (W.heap.size)
 have HS0:=U (HST.out.later ((Below.refl _ _).alloc (Nat.le_refl _) (Obj.cells #[Value.int IntKind.i64 0] 3)))
 have HC0:=U (Cn.alloc HST.out.row 0)
 rw[<-hsb] at HC0 ⊢
 generalize hwa:W.alloc (Obj.cells #[Value.int IntKind.i64 0] 3)=wa at HS0 HC0 ⊢
 clear HST hsb hwa
 by_cases h50:50<=L
 ·have h50z : (50 : Int) <= (L : Int) := O0
  go_wp2_with fail
  refine(HCA.out _ i sb HI.out HS0.out HC0.out).mono ?_
  rintro e w1 ⟨i1,rfl,hi1,hst,hcn⟩
  have HI1:=U hi1;have HS1:=U hst;have HC1:=U hcn
  clear hi1 hst hcn HS0 HC0
  go_wp2_with fail
  refine(HCA.out _ j sb HJ.out HS1.out HC1.out).mono ?_
  rintro e w2 ⟨j1,rfl,hj1,hst,hcn⟩
  have HJ1:=U hj1;have HS2:=U hst;have HC2:=U hcn
  clear hj1 hst hcn HS1 HC1
  go_wp2_with fail
  refine(HCA.out _ k sb HK.out HS2.out HC2.out).mono ?_
  rintro e w3 ⟨k1,rfl,hk1,hst,hcn⟩
  have HK1:=U hk1;have HS3:=U hst;have HC3:=U hcn
  clear hk1 hst hcn HS2 HC2
  go_wp2_with fail
  refine(HCM.out _ i1 j1 k1 _ HI1.out HJ1.out HK1.out HS3.out HC3.out).mono ?_
  exact M76
 ·have h50z : ¬ (50 : Int) <= (L : Int) := O0
  go_wp2_with fail
  refine(HCM.out _ i j k _ (by have:=HI.out;omega) (by have:=HJ.out;omega) (by have:=HK.out;omega) HS0.out HC0.out).mono ?_
  exact M76):p:=h
theorem Ks (hE : Env base blk n w0 mb key Ok) (a b : Nat) (hab : a + 12 < b) (hb : b <= n) (cap : Nat) (hcap : n <= cap /\ cap <= maxLen) (h : St base blk n w0 key Ok W f) : 
  Calls Tryz.prog 124 #[.slice (some ⟨blk,0,none⟩) n cap,.int .i64 a,.int .i64 b,.func (.func 46) #[.map (some mb)] #[]] W fun e w'=>∃p hint:Nat,e= .returned (.tuple #[.int .i64 p,.int .i64 hint])/\(a<=p/\p<b)/\St base blk n w0 key Ok w' f:=by
 open Q575 in exact KM
theorem Srt.snoc {a i ip:Nat}(h:Srt key a i g)(e:i=ip+1)(hl:a<i->key (g ip)<key (g i)):Srt key a (i+1) g:=fun p q h1 h2 h3=>by
 by_cases q1:q=i
 ·rw [q1]
  by_cases p1:p=ip
  ·rw[p1];exact hl O0
  ·exact Nat.lt_trans (h p ip h1 O0 O0) (hl O0)
 ·exact h p q h1 h2 O0
def But (key:RF->Nat)(a i j:Nat)(g:Nat->RF):Prop:=∀p q,a<=p->p<q->q<i->q≠j->key (g p)<key (g q)
theorem But.start {a i ip:Nat}(h:Srt key a i g)(e:i=ip+1):But key a i ip (sw g i ip):=fun p q h1 h2 h3 h4=>by
 rw[Px g O0 O0,Px g O0 O0];exact h p q h1 h2 h3
theorem But.step {a i j jp:Nat}(h:But key a i j g)(e:j=jp+1)(hj:j<i)(ha:a<=jp)(hl:key (g j)<key (g jp)):But key a i jp (sw g j jp):=fun p q h1 h2 h3 h4=>by
 by_cases q1:q=j
 ·rw [q1, JE]
  by_cases p1:p=jp
  ·rw[p1,sw_r];exact hl
  ·rw[Px g O0 p1];exact h p jp h1 O0 O0 O0
 ·rw [Px g (k := q) q1 h4]
  by_cases p1:p=j
  ·rw[p1,JE];exact h jp q O0 O0 h3 q1
  ·by_cases p2 : p = jp
   ·rw[p2,sw_r];exact h j q O0 O0 h3 q1
   ·rw[Px g p1 p2];exact h p q h1 h2 h3 q1
theorem But.done {a i j jp:Nat}(h:But key a i j g)(e:j=jp+1)(hj:j<i)(hl:a<j->key (g jp)<key (g j)):Srt key a i g:=fun p q h1 h2 h3=>by
 by_cases q1:q=j
 ·rw [q1]
  by_cases p1:p=jp
  ·rw[p1];exact hl O0
  ·exact Nat.lt_trans (h p jp h1 O0 O0 O0) (hl O0)
 ·exact h p q h1 h2 h3 q1
theorem But.least {a i:Nat}(h:But key a i a g):Srt key a i g:=fun p q h1 h2 h3=>h p q h1 h2 h3 O0
theorem Srt.sw {a i j k:Nat}(h:Srt key a i g)(hj:i<=j)(hk:i<=k):Srt key a i (sw g j k):=fun p q h1 h2 h3=>by
 rw[Px g O0 O0,Px g O0 O0];exact h p q h1 h2 h3
theorem Mix.low {a b k l:Nat}(m:Mix a b f g)(hlo:∀k l,k<a->a<=l->l<b->key (f k)<key (f l))(h1:k<a)(h2:a<=l)(h3:l<b):key (g k)<key (g l):=by
 obtain⟨r,r1,r2,r3⟩:=m.in_ h2 h3
 rw[m.out (.inl h1),r3];exact hlo k r h1 r1 r2
theorem St.gt (h:St base blk n w0 key Ok W f){i j:Nat}(hi:i<n)(hj:j<n)(hne:i≠j)(hl:¬key (f i)<key (f j)):key (f j)<key (f i):=by
 rcases Nat.lt_trichotomy (key (f i)) (key (f j)) with z|z|z
 ·exact absurd z hl
 ·exact absurd (h.dist _ _ hi hj z) hne
 ·exact z
theorem Q441.Y439 (h:p:=by
 go_wp2_with fail
 go_meet
 case rel=>exact⟨by rw[HP.out];by_cases q:key (g i)<key (g ip);(simp[hgd,HCV.out,q,Nat.not_le.2 q]);(simp[hgd,HCV.out,q,Nat.not_lt.1 q]),HQ.out⟩):p:=h
theorem Q728.Y722 (h:p:=by
 go_roundw
 case rel=>exact⟨jp,_,by go_num,haj2,hjpi,HW.out,HM6.out,HB6.out⟩
 case measure=>(simp[intOf];try omega)):p:=h
theorem Q442.Y439 (h:p:=by
 obtain⟨⟨⟨x0,x1,x2,x3⟩,y0,y1,y2,y3⟩,⟨⟨u0,u1,u2,u3⟩,v0,v1,v2,v3⟩,⟨q0,q1,q2,q3⟩,hsw⟩:=HQ.out.swp (i:=j) (j:=jp) hjn hjpn HX.out HY.out
 have HW:=U hsw
 clear hsw
 open Q728 in exact Re):p:=h
theorem Q446.Y439 (h:p:=by
 go_wp2_with fail
 ·go_meet
  case rel=>exact⟨_,HQ.out,HM5.out,HR6.out⟩
 ·exact M178):p:=h
theorem Q725.Y722 (h:p:=by
 go_roundw
 case rel=>exact⟨j+1,_,by go_num,O0,O0,HW.out,HM6.out,HR6.out⟩
 case measure=>(simp[intOf];try omega)):p:=h
theorem Q447.Y439 (h:p:=by
 obtain⟨⟨⟨x0,x1,x2,x3⟩,y0,y1,y2,y3⟩,⟨⟨u0,u1,u2,u3⟩,v0,v1,v2,v3⟩,⟨q0,q1,q2,q3⟩,hsw⟩:=HQ.out.swp (i:=j) (j:=jp) hjn hjpn HX.out HY.out
 have HW:=U hsw
 clear hsw
 have HM6:Hid (Mix a b f (sw g j jp)):=U (HM5.out.trans (FQ g O0 (by have:=HJP.out;omega)))
 have HR6:Hid (Srt key a i (sw g j jp)):=U (HR5.out.sw O0 O0)
 open Q725 in exact Re):p:=h
theorem Q448.Y439 (h:p:=by
 go_wp2_with fail
 ·go_roundw
  case rel=>exact⟨i,j0+1,_,by go_num,by go_num,hai,hib,HQ.out,HM5.out,HR5.out⟩
  case measure=>(simp[intOf];try omega)
 ·exact M178):p:=h
theorem Q467.Y464 (h:p:=by
 by_cases hlt:cv<0
 ·go_wp2_with fail
  go_quiet_grown (first | (go_at_call 46;refine Calls.grown_of (hcg _ _)))
  have HQ:=U (HS5.out.later (DF wr nq osq))
  open Q447 in exact XN
 ·go_wp2_with fail
  go_quiet_grown (first | (go_at_call 46;refine Calls.grown_of (hcg _ _)))
  have HQ:=U (HS5.out.later (DF wr nq osq))
  open Q448 in exact XN):p:=h
theorem Q468.Y464 (h:p:=by
 by_cases hlt:cv<0
 ·have hkl := HCV.out.1 hlt
  have haj2:a<=jp:=by
   by_cases e:a<=jp
   ·exact e
   ·have := HM5.out.low HLO.out (k := jp) (l := j) O0 haj O0
    omega
  have HB6:Hid (But key a i jp (sw g j jp)):=U (HB5.out.step HJP.out hji haj2 hkl)
  have HM6:Hid (Mix a b f (sw g j jp)):=U (HM5.out.trans (FQ g O0 (by have:=HJP.out;omega)))
  have hjpi:jp<i:=by have:=HJP.out;omega
  have hjpj:jp<j:=by have:=HJP.out;omega
  clear hkl
  go_wp2_with fail
  go_quiet_grown (first | (go_at_call 46;refine Calls.grown_of (hcg _ _)))
  have HQ:=U (HS5.out.later (DF wr nq osq))
  open Q442 in exact XN
 ·have HR6 : Hid (Srt key a i g) := U (HB5.out.done HJP.out hji fun _ => HS5.out.gt hjn hjpn (by have := HJP.out; omega) (fun z => hlt (HCV.out.2 z)))
  go_wp2_with fail
  go_quiet_grown (first | (go_at_call 46;refine Calls.grown_of (hcg _ _)))
  have HQ:=U (HS5.out.later (DF wr nq osq))
  open Q446 in exact XN):p:=h
theorem Q473.Y464 (h:p:=by
 go_wp2_with fail
 go_quiet_grown (first | (go_at_call 46;refine Calls.grown_of (hcg _ _)))
 have HQ:=U (HS1.out.later (DF wr nq osq))
 open Q441 in exact XN):p:=h
theorem M701 (h:p:=by
 obtain⟨jp,hjp⟩:∃jp,j=jp+1:=⟨j-1,O0⟩
 have hwj:IntKind.i64.wrap ((j:Int)-1)=(jp:Int):=by rw[IntKind.wrap_i64]<;>omega
 have hjn:j<n:=O0
 have hjpn:jp<n:=O0
 have hjz:(j:Int)<(n:Int):=O0
 have hjpz:(jp:Int)<(n:Int):=O0
 exact Y701):p:=h
theorem Q702.Y701 (h:p:=by
 have hj1z:(1:Int)<=(j:Int):=O0
 have HJP:=U hjp
 clear hjp
 obtain⟨xf,xi,xn,xa,yf,yi,yn,ya,cv,hx,hy,hcv,hcl,hcg⟩:=HS5.out.cmp HE.out (i:=j) (j:=jp) hjn hjpn
 open Q468 in exact Vw):p:=h
theorem Q703.Y701 (h:p:=by
 have hjbz:(j:Int)<(b:Int):=O0
 have hjpi:i<=jp:=O0
 have HJP:=U hjp
 clear hjp
 obtain⟨xf,xi,xn,xa,yf,yi,yn,ya,cv,hx,hy,hcv,hcl,hcg⟩:=HS5.out.cmp HE.out (i:=j) (j:=jp) hjn hjpn
 open Q467 in exact Vw):p:=h
theorem Q605.Y602 (h:p:=by
 go_upto_if 65 with fail
 go_cut [11] from 65 to 100 (fun z wx=>∃g2,St base blk n w0 key Ok wx g2/\Mix a b f g2/\Srt key a i g2)
 case first =>
  by_cases hd2:2<=di
  ·have hd2z : (2 : Int) <= (di : Int) := O0
   rw[show decide ((2:Int)<=(di:Int))=true from decide_eq_true hd2z]
   go_wp2_with fail
   go_loopw [11] (fun v wr=>∃(j:Nat) (g:Nat->RF),v= .int .i64 j/\a<=j/\j<i/\St base blk n w0 key Ok wr g/\Mix a b f g/\But key a i j g) (fun v _=>(intOf v).toNat)
   case atStart=>exact⟨ip,_,by go_num,by have:=HIP.out;omega,by have:=HIP.out;omega,HW.out,HM3.out,HB3.out⟩
   case round=>
    obtain⟨j,g,rfl,haj,hji,hst,hmx,hbu⟩:=hrel
    have HS5:=U hst;have HM5:=U hmx;have HB5:=U hbu
    clear hst hmx hbu HW HM3 HB3
    by_cases hj1:1<=j
    ·open Q702 in exact M701
    ·have hj1z : ¬ (1 : Int) <= (j : Int) := O0
     have e:j=a:=O0
     have HR6:Hid (Srt key a i g):=U (by have h:=HB5.out;rw[e] at h;exact h.least)
     clear e
     go_wp2_with fail
     go_meet
     case rel=>exact⟨_,HS5.out,HM5.out,HR6.out⟩
  ·have hd2z : ¬ (2 : Int) <= (di : Int) := O0
   have HR6:Hid (Srt key a i (sw g i ip)):=U fun p q h1 h2 h3=>by have:=HDI.out;omega
   go_wp2_with fail
   go_meet
   case rel=>exact⟨_,HW.out,HM3.out,HR6.out⟩
 case rest=>
  obtain⟨g2,hst,hmx,hsr⟩:=hcut
  have HS4:=U hst;have HM4:=U hmx;have HR4:=U hsr
  clear hst hmx hsr HW HM3 HB3
  go_upto_if 104 with fail
  by_cases hb2:2<=bi
  ·have hb2z : (2 : Int) <= (bi : Int) := O0
   rw[show decide ((2:Int)<=(bi:Int))=true from decide_eq_true hb2z]
   go_wp2_with fail
   go_loopw [12] (fun v wr=>∃(j:Nat) (g:Nat->RF),v= .int .i64 j/\i<j/\j<=b/\St base blk n w0 key Ok wr g/\Mix a b f g/\Srt key a i g) (fun v _=>b-(intOf v).toNat)
   case atStart=>exact⟨i+1,g2,by go_num,O0,O0,HS4.out,HM4.out,HR4.out⟩
   case round=>
    obtain⟨j,g,rfl,hij,hjb,hst,hmx,hsr⟩:=hrel
    have HS5:=U hst;have HM5:=U hmx;have HR5:=U hsr
    clear hst hmx hsr HS4 HM4 HR4
    by_cases hjb2:j<b
    ·open Q703 in exact M701
    ·have hjbz : ¬ (j : Int) < (b : Int) := O0
     go_wp2_with fail
     go_roundw
     case rel=>exact⟨i,j0+1,_,by go_num,by go_num,hai,hib,HS5.out,HM5.out,HR5.out⟩
     case measure=>(simp[intOf];try omega)
  ·have hb2z : ¬ (2 : Int) <= (bi : Int) := O0
   go_wp2_with fail
   go_roundw
   case rel=>exact⟨i,j0+1,_,by go_num,by go_num,hai,hib,HS4.out,HM4.out,HR4.out⟩
   case measure=>(simp[intOf];try omega)):p:=h
theorem Q576.Y570 (h:p:=by
 have HLO:=U hlo
 clear hlo
 obtain⟨L,hL⟩:=Rm (b-a)
 have hsub:(b:Int)-(a:Int)=(L:Int):=O0
 have HL:=U hL
 clear hL
 go_enter Tryz.func126,Tryz.ntmps126
 go_wp2_with fail
 go_loopw [9,10] (fun v u wr=>∃(i j:Nat) (g:Nat->RF),v= .int .i64 i/\u= .int .i64 j/\a<i/\i<=b/\St base blk n w0 key Ok wr g/\Mix a b f g/\Srt key a i g) (fun v u _=>5-(intOf u).toNat)
 case atStart=>exact⟨a+1,0,f,by go_num,by go_num,O0,O0,HST.out,Mix.refl _ _ _,fun p q h1 h2 h3=>O0⟩
 case round=>
  obtain⟨i0,j0,g,rfl,rfl,hai0,hib0,hst,hmx,hsr⟩:=hrel
  have HS:=U hst;have HM:=U hmx;have HR:=U hsr
  clear hst hmx hsr HST
  by_cases hj5:j0<5
  ·have hj5z : (j0 : Int) < 5 := O0
   go_wp2_with fail
   go_loopw [9] (fun v wr=>∃i:Nat,v= .int .i64 i/\a<i/\i<=b/\St base blk n w0 key Ok wr g/\Srt key a i g) (fun v _=>b-(intOf v).toNat)
   case atStart=>exact⟨i0,rfl,hai0,hib0,HS.out,HR.out⟩
   case round=>
    obtain⟨i,rfl,hai,hib,hst,hsr⟩:=hrel
    have HS1:=U hst;have HR1:=U hsr
    clear hst hsr HS HR hai0 hib0
    obtain⟨ip,hip⟩:∃ip,i=ip+1:=⟨i-1,O0⟩
    have hwi:IntKind.i64.wrap ((i:Int)-1)=(ip:Int):=by rw[IntKind.wrap_i64]<;>omega
    have hipn:ip<n:=O0
    have hipz:(ip:Int)<(n:Int):=O0
    have hne:i≠ip:=O0
    have HIP:=U hip;have HNE:=U hne
    clear hip hne
    obtain⟨p,hp⟩:=Rm (decide (i<b/\¬key (g i)<key (g ip)))
    have HP:=U hp
    clear hp
    go_upto_region 5 with fail
    go_cut [36] from 19 to 36 (fun z wx=>z= .bool p/\St base blk n w0 key Ok wx g)
    case first =>
     by_cases hgd:i<b
     ·have hgz : (i : Int) < (b : Int) := O0
      have hin:i<n:=O0
      have hiz:(i:Int)<(n:Int):=O0
      obtain⟨xf,xi,xn,xa,yf,yi,yn,ya,cv,hx,hy,hcv,hcl,hcg⟩:=HS1.out.cmp HE.out (i:=i) (j:=ip) (show i<n by omega) hipn
      open Q473 in exact Vw
     ·have hgz : ¬ (i : Int) < (b : Int) := O0
      exact M71
    case rest=>
     obtain⟨rfl,hst⟩:=hcut
     have HS2:=U hst
     clear hst HS1
     cases p with
     | true=>
      have hpp:=of_decide_eq_true HP.out.symm
      have hib2:=hpp.1
      have HR2:Hid (Srt key a (i+1) g):=U (HR1.out.snoc HIP.out fun _=>HS2.out.gt O0 hipn HNE.out hpp.2)
      clear hpp
      go_wp2_with fail
      go_roundw
      case rel=>exact⟨i+1,by go_num,O0,O0,HS2.out,HR2.out⟩
      case measure=>(simp[intOf];try omega)
     | false=>
      clear HP
      by_cases hibe:i=b
      ·subst hibe
       go_wp2_with fail
       go_ret
       exact⟨true,rfl,g,HS2.out,HM.out,fun _=>HR1.out⟩
      ·have hibz : ¬ (i : Int) = (b : Int) := O0
       have hibn:i<b:=O0
       by_cases h50:L<50
       ·have h50z : (L : Int) < 50 := O0
        go_wp2_with fail
        go_ret
        exact⟨false,rfl,g,HS2.out,HM.out,fun q=>by cases q⟩
       ·have h50z : ¬ (L : Int) < 50 := O0
        have hin:i<n:=O0
        have hiz:(i:Int)<(n:Int):=O0
        have HM3:Hid (Mix a b f (sw g i ip)):=U (HM.out.trans (FQ g O0 (by have:=HIP.out;omega)))
        have HB3:Hid (But key a i ip (sw g i ip)):=U (But.start HR1.out HIP.out)
        obtain⟨di,hdi⟩:=Rm (i-a)
        have hdz:(i:Int)-(a:Int)=(di:Int):=O0
        obtain⟨bi,hbi⟩:=Rm (b-i)
        have hbz:(b:Int)-(i:Int)=(bi:Int):=O0
        have HDI:Hid (di=i-a):=U hdi
        have HBI:Hid (bi=b-i):=U hbi
        clear hdi hbi
        obtain⟨x,hx⟩:=Rm (g i)
        obtain⟨y,hy⟩:=Rm (g ip)
        obtain⟨xf,xi,xn,xa⟩:=x
        obtain⟨yf,yi,yn,ya⟩:=y
        obtain⟨⟨⟨x0,x1,x2,x3⟩,y0,y1,y2,y3⟩,⟨⟨u0,u1,u2,u3⟩,v0,v1,v2,v3⟩,⟨q0,q1,q2,q3⟩,hsw⟩:=HS2.out.swp (i:=i) (j:=ip) hin hipn hx.symm hy.symm
        open Q605 in exact Rf
  ·have hj5z : ¬ (j0 : Int) < 5 := O0
   go_wp2_with fail
   try simp only[Exit.inBlock,Exit.then]
   refine bodyPost_ret (results_tmp rfl _ _ _) rfl ?_
   exact .inl ⟨rfl,g,HS.out,HM.out⟩):p:=h
theorem YF (hE : Env base blk n w0 mb key Ok) (a b : Nat) (hab : a < b) (hb : b <= n) (hlo : ∀ k l, k < a -> a <= l -> l < b -> key (f k) < key (f l)) (cap : Nat) (hcap : n <= cap /\ cap <= maxLen) (h : St base blk n w0 key Ok W f) : 
  Calls Tryz.prog 126 #[.slice (some ⟨blk,0,none⟩) n cap,.int .i64 a,.int .i64 b,.func (.func 46) #[.map (some mb)] #[]] W fun e w'=>∃r:Bool,e= .returned (.bool r)/\∃g,St base blk n w0 key Ok w' g/\Mix a b f g/\(r=true->Srt key a b g):=by
 open Q576 in exact KM
end Ts
end Go.Proofs.YtaahfiopdoinkaaGreat
