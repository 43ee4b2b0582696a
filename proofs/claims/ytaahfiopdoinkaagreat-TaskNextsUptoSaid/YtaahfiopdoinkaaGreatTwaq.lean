/- History.Timers, History.Tasks. -/
import Derived.Laws.Rows
import Derived.Laws.IdiomRangeMap
import Derived.Test.YtaahfiopdoinkaaGreatTwap
import Derived.Test.YtaahfiopdoinkaaGreatTwan
import Derived.Lib.AppendZeros
import Derived.Test.YtaahfiopdoinkaaGreatTwaj
set_option maxRecDepth 100000
set_option maxHeartbeats 4000000
variable {p : Prop}
set_option linter.unusedVariables false
set_option linter.unusedSimpArgs false
open Go.RowKit
namespace Go.Proofs.YtaahfiopdoinkaaGreat
namespace Hi
open Vt (VT Rep Da DX DY)
open Ev (EV Dj Db Dn)
open Cm (rowOf)
open Cn (BT)
variable {X X' Y Y' : Nat -> Prop} {u v w w' V V' : World} {hb bt bm bk n cap : Nat} {A : Option Addr} {h : HM}
def TmIn (w:World)(A:Option Addr)(cap:Nat)(l:List (Nat×Nat)):Prop:=l.length<=cap/\cap<=maxLen/\(0<l.length->∃b,A=some ⟨b,0,none⟩/\b<w.heap.size/\∀i (h:i<l.length),w.cell? ⟨b,i*2,none⟩=some (.int .u64 (l[i].1:Nat))/\w.cell? ⟨b,i*2+1,none⟩=some (.int .u64 (l[i].2:Nat)))
theorem TmIn.later {l:List (Nat×Nat)}(h:TmIn w A cap l)(hb:Below w.heap.size w w'):TmIn w' A cap l:=⟨h.1,h.2.1,fun hp=>by
 obtain⟨b,hA,hlt,h3⟩:=h.2.2 hp
 exact⟨b,hA,Nat.lt_of_lt_of_le hlt hb.size,fun i hi=>⟨(hb.cell (p:=⟨b,_,none⟩) hlt).trans (h3 i hi).1,(hb.cell (p:=⟨b,_,none⟩) hlt).trans (h3 i hi).2⟩⟩⟩
theorem UN {l:List (Nat×Nat)}{id:Nat}{x:Nat×Nat}(h:FR l id=some x):x∈l/\x.1=id:=by
 unfold FR at h
 exact⟨List.mem_of_find?_eq_some h,by simpa using List.find?_some h⟩
theorem Um (H:HAt Y w hb bt bm bk n A cap h)(hn:n<=1200000000000)(hid:∀t∈h.s.timers,t.1<18446744073709551616)(hl:h.s.timers.length<=1200000000000) :
  Calls Tryz.prog 35 #[.pointer (some ⟨hb,0,none⟩)] w fun r w'=>∃A2 cap2,r= .returned (.slice A2 h.s.timers.length cap2)/\Below w.heap.size w w'/\TmIn w' A2 cap2 h.s.timers/\∀b,rowOf A2=some b->w.heap.size<=b:=by
 obtain⟨c0,c1,c2,c3,c4,c5,c6,cf⟩:=FT H.blk
 obtain⟨D,hown,hsay⟩:=H.maps.timers
 have hp:(h.s.timers.map (·.1)).Pairwise (· < ·):=by rw[List.pairwise_map];exact H.fine.fine.timers
 obtain⟨W1,hW1⟩:=Rm (w.alloc (.cells #[.map (some bm)] 120))
 have hb1:Below w.heap.size w W1:=by rw[hW1];exact Rl
 have hm1:W1.cell? ⟨w.heap.size,0,none⟩=some (.map (some bm)):=by rw[hW1];exact(FV (World.alloc_heap_new w _)).1
 have hown1:=DW hown (hb1.block bm hown.lt)
 have HS := U (LG w.heap.size bm n D (FR h.s.timers) hsay (fun id x hx => (UN hx).2) W1 (by rw [hW1]; simp) hm1 hown1 hn (h.s.timers.map (·.1)) hp (fun id => by
  constructor
  ·intro q
   obtain⟨x,hx,rfl⟩:=List.mem_map.1 q
   refine⟨hid x hx,?_⟩
   unfold FR
   rw[List.find?_isSome]
   exact⟨x,hx,O3⟩
  ·intro ⟨_, q⟩
   obtain⟨x,hx⟩:=Option.isSome_iff_exists.1 q
   exact List.mem_map.2 ⟨x,(UN hx).1,(UN hx).2⟩) (by rw[List.length_map];exact hl))
 have HV:=U (LF (some bm) w)
 have HF:=U H.fine.fine
 have HB1:=U hb1
 clear H hown hsay hp hb1 hm1 hown1 hid c0 c2 c3 c4 c5 c6 cf
 go_enter Tryz.func35,Tryz.ntmps35
 go_wp2_with fail
 refine HV.out.mono ?_
 rintro e wx ⟨rfl,rfl⟩
 rw[<-hW1]
 replace hW1:=U hW1
 go_wp2_with fail
 refine HS.out.mono ?_
 rintro e w2 ⟨v2,rfl,hs⟩
 have HSS:=U hs
 clear hs
 go_wp2_with fail
 go_ret
 obtain⟨hb2,hh⟩:=HSS.out
 have hbb:Below w.heap.size w w2:=HB1.out.trans (hb2.mono HB1.out.size)
 rcases hh with ⟨h0,rfl⟩|⟨blk,cap2,rfl,q1,q2,q3,q4,q5⟩
 ·have hnil : h.s.timers = [] := by simpa using h0
  rw[hnil]
  exact⟨none,0,rfl,hbb,⟨O3,Nat.zero_le _,fun q=>absurd q O3⟩,fun b q=>by cases q⟩
 ·rw [List.length_map] at q1 ⊢
  refine⟨_,cap2,rfl,hbb,⟨q1,q2,fun _=>⟨blk,rfl,q4,fun i hi=> ?_⟩⟩,fun b q=>by have e:blk=b:=Option.some.inj q;have:=HB1.out.size;omega⟩
  have hget:=UT (k:=2) (enc:=VB (FR h.s.timers)) (fun _=>rfl) q5 i (by rw[List.length_map];exact hi)
  have g0:=(hget 0 O0).1
  have g1:=(hget 1 O0).1
  have hel : Yh (FR h.s.timers) ((h.s.timers.map (·.1))[i]'(by rw [List.length_map]; exact hi)) = h.s.timers[i] := by
   unfold Yh
   rw[List.getElem_map,Le HF.out.timers hi]
  unfold VB at g0 g1
  rw[hel] at g0 g1
  exact⟨g0,g1⟩
def DA (t:TK)(k n:Int)(f:Nat)(s:ByteArray)(A:Option Addr)(m c:Nat):Array Value:=
 #[.int .u64 (t.id:Nat),.string t.name,.int .i64 k,.int .i64 n,.float .f64 f,.string s,.slice A m c,.int .i64 t.n,.bool t.fl,.int .u64 (t.at':Nat)]
def TkIn (w:World)(A:Option Addr)(cap:Nat)(l:List TK):Prop:=l.length<=cap/\cap<=maxLen/\(0<l.length->∃b off,A=some ⟨b,off,none⟩/\b<w.heap.size/\∀i (h:i<l.length),∃lo hi k n f s A' m c,TOk l[i]/\Rep w lo hi l[i].v (Dn k n f s A' m c)/\hi<=w.heap.size/\
 ∀q,q<10->w.cell? ⟨b,off+i*10+q,none⟩=(DA l[i] k n f s A' m c)[q]?)
theorem TkIn.later {l:List TK}(h:TkIn w A cap l)(hb:Below w.heap.size w w'):TkIn w' A cap l:=⟨h.1,h.2.1,fun hp=>by
 obtain⟨b,off,hA,hlt,h3⟩:=h.2.2 hp
 refine⟨b,off,hA,Nat.lt_of_lt_of_le hlt hb.size,fun i hi=> ?_⟩
 obtain⟨lo,hi2,k,n,f,s,A',m,c,q1,q2,q3,q4⟩:=h3 i hi
 exact⟨lo,hi2,k,n,f,s,A',m,c,q1,q2.later (hb.mono q3),Nat.le_trans q3 hb.size,fun q hq=>(hb.cell (p:=⟨b,_,none⟩) hlt).trans (q4 q hq)⟩⟩
theorem TkIn.leads {l:List TK}(h:TkIn v A cap l)(hl:Leads v w):TkIn w A cap l:=⟨h.1,h.2.1,fun hp=>by
 obtain⟨b,off,hA,hlt,h3⟩:=h.2.2 hp
 refine⟨b,off,hA,Nat.lt_of_lt_of_le hlt hl.size,fun i hi=> ?_⟩
 obtain⟨lo,hi2,k,n,f,s,A',m,c,q1,q2,q3,q4⟩:=h3 i hi
 refine⟨lo,hi2,k,n,f,s,A',m,c,q1,Rep.leads q2 hl,Nat.le_trans q3 hl.size,fun q hq=> ?_⟩
 have e:=q4 q hq
 obtain⟨y,hy⟩:∃y,(DA l[i] k n f s A' m c)[q]?=some y:=by
  refine⟨_,Array.getElem?_eq_getElem ?_⟩
  exact hq
 rw[hy] at e ⊢
 exact hl.cell e⟩
def TkNew (B:Nat)(w:World)(A:Option Addr)(cap:Nat)(l:List TK):Prop:=l.length<=cap/\cap<=maxLen/\(0<l.length->∃b off,A=some ⟨b,off,none⟩/\b<w.heap.size/\∀i (h:i<l.length),∃lo hi k n f s A' m c,TOk l[i]/\Rep w lo hi l[i].v (Dn k n f s A' m c)/\hi<=w.heap.size/\B<=lo/\
 ∀q,q<10->w.cell? ⟨b,off+i*10+q,none⟩=(DA l[i] k n f s A' m c)[q]?)
theorem TkNew.read {B:Nat}{l:List TK}(h:TkNew B w A cap l):TkIn w A cap l:=⟨h.1,h.2.1,fun hp=>by
 obtain⟨b,off,hA,hlt,h3⟩:=h.2.2 hp
 exact⟨b,off,hA,hlt,fun i hi=>by
  obtain⟨lo,hi2,k,n,f,s,A',m,c,q1,q2,q3,-,q4⟩:=h3 i hi
  exact⟨lo,hi2,k,n,f,s,A',m,c,q1,q2,q3,q4⟩⟩⟩
def TRow (w:World)(b:Nat)(l:List TK)(B j:Nat):Prop:=b<w.heap.size/\(∀p,p<l.length*10->w.frozen? ⟨b,p,none⟩=false)/\∀i (h:i<l.length),∃lo hi k n f s A' m c,TOk l[i]/\Rep w lo hi l[i].v (Dn k n f s A' m c)/\hi<=w.heap.size/\(b<lo\/hi<=b)/\(i<j->B<=lo)/\
 ∀q,q<10->w.cell? ⟨b,i*10+q,none⟩=(DA l[i] k n f s A' m c)[q]?
theorem TRow.later {b B j:Nat}{l:List TK}(h:TRow w b l B j)(hb:Below w.heap.size w w'):TRow w' b l B j:=⟨Nat.lt_of_lt_of_le h.1 hb.size,fun p hp=>(hb.frozen (p:=⟨b,p,none⟩) h.1).trans (h.2.1 p hp),fun i hi=>by
 obtain⟨lo,hi2,k,n,f,s,A',m,c,q1,q2,q3,q5,q6,q4⟩:=h.2.2 i hi
 exact⟨lo,hi2,k,n,f,s,A',m,c,q1,q2.later (hb.mono q3),Nat.le_trans q3 hb.size,q5,q6,fun q hq=>(hb.cell (p:=⟨b,_,none⟩) h.1).trans (q4 q hq)⟩⟩
theorem put5_at (w:World)(b p:Nat)(d0 d1 d2 d3 d4:Value)(y0 y1 y2 y3 y4:Value)(h:w.cell? ⟨b,p,none⟩=some y0/\w.cell? ⟨b,p+1,none⟩=some y1/\w.cell? ⟨b,p+2,none⟩=some y2/\w.cell? ⟨b,p+3,none⟩=some y3/\w.cell? ⟨b,p+4,none⟩=some y4) :
  (∀q,q<p\/p+5<=q->(DY w b p d0 d1 d2 d3 d4).cell? ⟨b,q,none⟩=w.cell? ⟨b,q,none⟩)/\∀q,q<5->(DY w b p d0 d1 d2 d3 d4).cell? ⟨b,p+q,none⟩=(#[d0,d1,d2,d3,d4])[q]?:=by
 unfold DY
 refine⟨fun q hq=> ?_,fun q hq=> ?_⟩
 ·have e : ∀ (W : World) (o : Nat) (x : Value), o ≠ q -> (W.setCell ⟨b, o, none⟩ x).cell? ⟨b, q, none⟩ = W.cell? ⟨b, q, none⟩ := fun W o x ho => World.cell?_setCell_other _ _ _ _ (fun e => ho (by cases e; rfl))
  rw[e _ _ _ O0,e _ _ _ O0,e _ _ _ O0,e _ _ _ O0,e _ _ _ O0]
 ·obtain ⟨h0, h1, h2, h3, h4⟩ := h
  have e:∀(W:World) (o q:Nat) (x:Value),o≠q->(W.setCell ⟨b,o,none⟩ x).cell? ⟨b,q,none⟩=W.cell? ⟨b,q,none⟩:=fun W o q x ho=>World.cell?_setCell_other _ _ _ _ (fun e=>ho (by cases e;rfl))
  rcases (by omega:q=0\/q=1\/q=2\/q=3\/q=4) with rfl|rfl|rfl|rfl|rfl
  ·rw [e _ _ _ _ O0, e _ _ _ _ O0, e _ _ _ _ O0, e _ _ _ _ O0]
   exact World.cell?_setCell_same' _ _ _ (by show (w.cell? ⟨b,p,none⟩).isSome=true;rw[h0];try rfl)
  ·rw [e _ _ _ _ O0, e _ _ _ _ O0, e _ _ _ _ O0]
   exact World.cell?_setCell_same' _ _ _ (by rw[e _ _ _ _ O0,h1];try rfl)
  ·rw [e _ _ _ _ O0, e _ _ _ _ O0]
   exact World.cell?_setCell_same' _ _ _ (by rw[e _ _ _ _ O0,e _ _ _ _ O0,h2];try rfl)
  ·rw [e _ _ _ _ O0]
   exact World.cell?_setCell_same' _ _ _ (by rw[e _ _ _ _ O0,e _ _ _ _ O0,e _ _ _ _ O0,h3];try rfl)
  ·exact World.cell?_setCell_same' _ _ _ (by rw[e _ _ _ _ O0,e _ _ _ _ O0,e _ _ _ _ O0,e _ _ _ _ O0,h4];try rfl)
theorem TRow.put {W : World} {b B j : Nat} {l : List TK} (h : TRow w b l B j) (hB : B <= W.heap.size) (hj : j < l.length) (hb : Below w.heap.size w W) (hb2 : Below W.heap.size W w') {k n : Int} {f : Nat} {s : ByteArray} {A : Option Addr} {m c : Nat}
  (hr:Rep w' W.heap.size w'.heap.size l[j].v (Dn k n f s A m c)):TRow (DY w' b (j*10+2) (.int .i64 k) (.int .i64 n) (.float .f64 f) (.string s) (.slice A m c)) b l B (j+1):=by
 have h1:=h.later (hb.trans (hb2.mono hb.size))
 obtain⟨lo,hi2,k0,n0,f0,s0,A0,m0,c0,q1,q2,q3,q5,-,q4⟩:=h1.2.2 j hj
 obtain⟨p1,p2⟩:=put5_at w' b (j*10+2) (.int .i64 k) (.int .i64 n) (.float .f64 f) (.string s) (.slice A m c) _ _ _ _ _ ⟨q4 2 O0,q4 3 O0,q4 4 O0,q4 5 O0,q4 6 O0⟩
 have hkeep:∀(lo hi:Nat) (t:VT) (x:Value),Rep w' lo hi t x->(b<lo\/hi<=b)->Rep (DY w' b (j*10+2) (.int .i64 k) (.int .i64 n) (.float .f64 f) (.string s) (.slice A m c)) lo hi t x:=fun lo hi t x hR hne=>hR.keep fun c o z1 z2=>Vt.Pq _ _ _ _ _ _ _ _ _ _ O0
 refine⟨by rw[Vt.FJ];exact h1.1,fun p hp=>by unfold DY;simp only[World.frozen?_setCell];exact h1.2.1 p hp,fun i hi=> ?_⟩
 by_cases e:i=j
 ·subst e
  have hbW:b<W.heap.size:=Nat.lt_of_lt_of_le h.1 hb.size
  refine⟨W.heap.size,w'.heap.size,k,n,f,s,A,m,c,q1,hkeep _ _ _ _ hr (.inl hbW),by rw[Vt.FJ];exact Nat.le_refl _,.inl hbW,fun _=>hB,fun q hq=> ?_⟩
  by_cases hq2:q<2\/7<=q
  ·rw [p1 _ O0, q4 q hq]
   rcases (by omega:q=0\/q=1\/q=7\/q=8\/q=9) with rfl|rfl|rfl|rfl|rfl<;>rfl
  ·have := p2 (q - 2) O0
   rw[show i*10+2+(q-2)=i*10+q by omega] at this
   rw[this]
   rcases (by omega:q=2\/q=3\/q=4\/q=5\/q=6) with rfl|rfl|rfl|rfl|rfl<;>rfl
 ·obtain ⟨lo, hi2, k, n, f, s, A', m, c, q1, q2, q3, q5, q6, q4⟩ := h1.2.2 i hi
  exact⟨lo,hi2,k,n,f,s,A',m,c,q1,hkeep _ _ _ _ q2 q5,by rw[Vt.FJ];exact q3,q5,fun hlt=>q6 O0,fun q hq=>(p1 _ (by rcases Nat.lt_or_gt_of_ne e with z|z<;>omega)).trans (q4 q hq)⟩
theorem TRow.read {b B:Nat}{l:List TK}(h:TRow w b l B l.length)(hc:l.length<=cap)(hm:cap<=maxLen):TkNew B w (some ⟨b,0,none⟩) cap l:=⟨hc,hm,fun _=>⟨b,0,rfl,h.1,fun i hi=>by
 obtain⟨lo,hi2,k,n,f,s,A',m,c,q1,q2,q3,q5,q6,q4⟩:=h.2.2 i hi
 exact⟨lo,hi2,k,n,f,s,A',m,c,q1,q2,q3,q6 hi,fun q hq=>by rw[Nat.zero_add];exact q4 q hq⟩⟩⟩
def TC1 (V:World)(t:TK)(x:TC):Prop:=x.id=t.id/\x.nm=t.name/\x.N=t.n/\x.fl=t.fl/\x.at'=t.at'/\TOk t/\∃lo hi,Rep V lo hi t.v (Dn x.k x.n x.f x.s x.A x.m x.c)/\hi<=V.heap.size
theorem LD {b n:Nat}{ts:List TK}(h:TMap w V b n ts):∃(D:DataW Value) (M:Nat->Option TC),w.ownsMap Tryz.prog 23 HR b n D/\Vv D M Ga/\∀id,id<18446744073709551616->Both (TC1 V) (Fb ts id) (M id):=by
 obtain⟨D,h1,h2⟩:=h
 have h3:∀id,∃m:Option TC,id<18446744073709551616->At D (GX id) (m.map Ga)/\Both (TC1 V) (Fb ts id) m:=fun id=>by
  by_cases hid:id<18446744073709551616
  ·obtain ⟨o, h3, h4⟩ := h2 id hid
   cases ht:Fb ts id with
   | none=>
    rw[ht] at h4
    cases o with
    | none=>exact⟨none,fun _=>⟨h3,trivial⟩⟩
    | some x=>exact h4.elim
   | some t=>
    rw[ht] at h4
    cases o with
    | none=>exact h4.elim
    | some x=>
     obtain⟨lo,hi,k,n,f,s,A,m,c,rfl,hok,hrep,hhi⟩:=h4
     exact⟨some ⟨t.id,t.name,k,n,f,s,A,m,c,t.n,t.fl,t.at'⟩,fun _=>⟨h3,rfl,rfl,rfl,rfl,rfl,hok,lo,hi,hrep,hhi⟩⟩
  ·exact⟨none,fun q=>absurd q hid⟩
 obtain⟨M,hM⟩:=Classical.axiomOfChoice h3
 exact⟨D,M,h1,fun id hid=>(hM id hid).1,fun id hid=>(hM id hid).2⟩
theorem Gk : ∀ (l : List Nat) (a N : Nat), l.Pairwise (· < ·) -> (∀ x ∈ l, a <= x /\ x < N) -> l.length <= N - a
 | [],_,_,_,_=>Nat.zero_le _
 | x::t,a,N,hp,h=>by
  obtain⟨h1,h2⟩:=h x List.mem_cons_self
  obtain⟨p1,p2⟩:=List.pairwise_cons.1 hp
  have:=Gk t (x+1) N p2 fun y hy=>⟨p1 y hy,(h y (List.mem_cons_of_mem _ hy)).2⟩
  rw[List.length_cons];omega
theorem FZ {h:HM}(hf:PA h):h.s.tasks.length<=tot h.bs+1:=by
 have h1 := Gk (h.s.tasks.map (·.id)) 0 h.s.next (by rw [List.pairwise_map]; exact hf.fine.tasks) fun x hx => by
  obtain⟨t,ht,rfl⟩:=List.mem_map.1 hx
  exact⟨Nat.zero_le _,hf.fine.below t ht⟩
 rw[List.length_map] at h1
 have:=hf.next;omega
theorem FE {h:HM}(hf:PA h):h.s.timers.length<=tot h.bs+1:=by
 have h1 := Gk (h.s.timers.map (·.1)) 0 h.s.next (by rw [List.pairwise_map]; exact hf.fine.timers) fun x hx => by
  obtain⟨t,ht,rfl⟩:=List.mem_map.1 hx
  exact⟨Nat.zero_le _,hf.fine.belowT t ht⟩
 rw[List.length_map] at h1
 have:=hf.next;omega
theorem Q403.Y402 (h:p:=by
 have hm1:W1.cell? ⟨w.heap.size,0,none⟩=some (.map (some bt)):=by rw[hW1];exact(FV (World.alloc_heap_new w _)).1
 have hown1:=DW hown (hb1.block bt hown.lt)
 have HSo:=U (LO w.heap.size bt n D M' hsay' hkey W1 O0 hm1 hown1 O0 (h.s.tasks.map (·.id)) hp hids' (by rw[List.length_map];omega))
 have HV:=U (LN (some bt) w)
 have HB1:=U hb1
 have HZ1:=U hz1
 have HSL:=U hS
 have HTR:Hid (∀(w2:World) (blk:Nat),Below W1.heap.size W1 w2->W1.heap.size<=blk->blk<w2.heap.size->Go.Sort.HoldsK (Ur M') 10 w2 blk 0 (h.s.tasks.map (·.id)).toArray->TRow w2 blk h.s.tasks w.heap.size 0):=U fun w2 blk hb2 hk1 hk2 hH=>by
  have hbb:Below w.heap.size w w2:=hb1.trans (hb2.mono hb1.size)
  have hget:=fun i (hi:i<h.s.tasks.length)=>UT (k:=10) (enc:=Ur M') (fun _=>rfl) hH i (by rw[List.length_map];exact hi)
  refine⟨hk2,fun p hp=> ?_,fun i hi=> ?_⟩
  ·have := (hget (p / 10) O0 (p % 10) O0).2
   rwa [show p/10*10+p%10=p by omega] at this
  ·obtain ⟨x, hx, e1, e2, e3, e4, e5, hok, lo, hi2, hrep, hhi⟩ := hent i hi
   rw[DM] at hhi
   refine⟨lo,hi2,x.k,x.n,x.f,x.s,x.A,x.m,x.c,hok,(Rep.leads hrep (Df _ _)).later (hbb.mono hhi),Nat.le_trans hhi hbb.size,.inr O0,fun h=>absurd h O0,fun q hq=> ?_⟩
   rw[(hget i hi q hq).1]
   have hel : Yp M' ((h.s.tasks.map (·.id))[i]'(by rw [List.length_map]; exact hi)) = x := by
    unfold Yp
    rw[List.getElem_map,hMM _ (hlt64 _ (List.getElem_mem hi)),hx]
   unfold Ur
   rw[hel]
   unfold GN DV DA
   rw[e1,e2,e3,e4,e5]
   simp
 have hlen2:h.s.tasks.length<=1190000000001:=O0
 clear H hown hsay hsay' hboth hn hlen hnx hp hgt hlt64 hent hids hids' hkey hkey' hM' hMM hb1 hz1 hm1 hown1 c1 c2 c3 c4 c5 c6 cf hS htot
 generalize h.s.tasks=ts at *
 go_enter Tryz.func30,Tryz.ntmps30
 go_wp2_with fail
 refine HV.out.mono ?_
 rintro e wx ⟨rfl,rfl⟩
 rw[<-hW1]
 replace hW1:=U hW1
 go_wp2_with fail
 refine HSo.out.mono ?_
 rintro e w2 ⟨v2,rfl,hb2,hh⟩
 have HBB:Hid (Below w.heap.size w w2):=U (HB1.out.trans (hb2.mono HB1.out.size))
 rcases hh with ⟨h0,rfl⟩|⟨blk,cap2,rfl,q1,q2,q3,q4,q5⟩
 ·have hnil : ts = [] := by simpa using h0
  subst hnil
  clear hb2 h0
  go_wp2_with fail
  go_loopw [17] (fun i wr=>i= .int .i64 0/\wr=w2) (fun _ _=>0)
  case atStart=>exact⟨rfl,rfl⟩
  case round=>
   obtain⟨rfl,rfl⟩:=hrel
   go_wp2_with fail
   go_ret
   exact⟨none,0,rfl,HBB.out,⟨O3,Nat.zero_le _,fun q=>absurd q O3⟩,fun b q=>by cases q⟩
 ·rw [List.length_map] at q1 ⊢
  have HR:=U (HTR.out w2 blk hb2 q3 q4 q5)
  have HBK:Hid (w.heap.size<blk):=U (by have:=HZ1.out;omega)
  obtain⟨L,hL⟩:=Rm (ts.length)
  have HLL:=U hL
  have HQ:=U (And.intro q1 q2)
  rw[<-hL] at hlen2
  rw[<-hL]
  clear hb2 q3 q4 q5 q1 q2 hL
  go_wp2_with fail
  go_loopw [17] (fun i wr=>∃j:Nat,j<=L/\i= .int .i64 j/\TRow wr blk ts w.heap.size j/\Below w.heap.size w wr) (fun i _=>L-(intOf i).toNat)
  case atStart=>exact⟨0,O0,rfl,HR.out,HBB.out⟩
  case round=>
   obtain⟨j,hj,rfl,hr,hb⟩:=hrel
   have HRJ:=U hr;have HB:=U hb
   clear hr hb
   by_cases hlt:j<L
   ·have hjl : j < ts.length := by have := HLL.out; omega
    obtain⟨lo,hi2,k,n0,f,s,A',m,c,hok,hv,hhi,hne,-,hcell⟩:=HRJ.out.2.2 j hjl
    have e0:=hcell 0 O0;have e1:=hcell 1 O0;have e2:=hcell 2 O0;have e3:=hcell 3 O0;have e4:=hcell 4 O0;have e5:=hcell 5 O0;have e6:=hcell 6 O0;have e7:=hcell 7 O0;have e8:=hcell 8 O0;have e9:=hcell 9 O0
    simp only[DA,List.getElem?_toArray,List.getElem?_cons_zero,List.getElem?_cons_succ,Nat.add_zero] at e0 e1 e2 e3 e4 e5 e6 e7 e8 e9
    obtain⟨W3,hW3⟩:=Rm (wr.alloc (.cells (DA ts[j] k n0 f s A' m c) 36))
    have hb3:Below wr.heap.size wr W3:=by rw[hW3];exact Rl
    have hx3:W3.heap[wr.heap.size]?=some (.cells (DA ts[j] k n0 f s A' m c) 36 (0,0)):=by rw[hW3];exact heap_alloc_new _ _
    obtain⟨g0,g1,g2,g3,g4,g5,g6,g7,g8,g9,-⟩:=Fc hx3
    have HC:=U (Vt.SH ts[j].v W3 lo hi2 _ (hv.later (hb3.mono hhi)) (by have:=hb3.size;omega) (HSL.out _ (List.getElem_mem hjl)))
    have HB3:=U hb3
    clear hv hb3 hx3 hcell hok
    unfold Dn at HC
    unfold DA at hW3
    replace hW3:=U hW3
    go_upto_region 7 with fail
    rw[<-hW3.out]
    go_wp2_with fail
    refine HC.out.mono ?_
    rintro x w4 ⟨k2,n2,f2,s2,l2,A2,cp2,ht,rfl,hr,hb4,-⟩
    have hst:=HRJ.out.put (by have:=HB.out.size;have:=HB3.out.size;omega) hjl HB3.out hb4 hr
    have hat4:=HRJ.out.later (HB3.out.trans (hb4.mono HB3.out.size))
    have hfw:∀q,q<10->w4.frozen? ⟨blk,j*10+q,none⟩=false:=fun q hq=>hat4.2.1 _ O0
    have z2:=hfw 2 O0;have z3:=hfw 3 O0;have z4:=hfw 4 O0;have z5:=hfw 5 O0;have z6:=hfw 6 O0
    obtain⟨-,-,kk,kn,kf,ks,kA,km,kc,-,-,-,-,-,hc4⟩:=hat4.2.2 j hjl
    have y2:=hc4 2 O0;have y3:=hc4 3 O0;have y4:=hc4 4 O0;have y5:=hc4 5 O0;have y6:=hc4 6 O0
    simp only[DA,List.getElem?_toArray,List.getElem?_cons_zero,List.getElem?_cons_succ] at y2 y3 y4 y5 y6
    have HST:=U hst;have HB4:=U hb4
    clear hr hb4 hst hfw hc4 hat4 ht e0 e1 e2 e3 e4 e5 e6 e7 e8 e9 g0 g1 g2 g3 g4 g5 g6 g7 g8 g9
    obtain⟨W5,hW5⟩:=Rm (DY w4 blk (j*10+2) (.int .i64 k2) (.int .i64 n2) (.float .f64 f2) (.string s2) (.slice A2 l2.length cp2))
    have HB5:Hid (Below w.heap.size w W5):=U (by rw[hW5];exact Vt.OD ((HB.out.trans (HB3.out.mono HB.out.size)).trans (HB4.out.mono (by have:=HB.out.size;have:=HB3.out.size;omega))) (by have:=HBK.out;omega))
    rw[<-hW5] at HST
    simp only[DY] at hW5
    go_upto_region 8 with fail
    exact M147
   ·have hj' : j = L := O0
    subst hj'
    go_wp2_with fail
    go_ret
    exact⟨_,cap2,by rw[<-HLL.out];rfl,HB.out,(by have h:=HRJ.out;rw[HLL.out] at h;exact h.read HQ.out.1 HQ.out.2),fun b q=>by have e:blk=b:=Option.some.inj q;have:=HBK.out;omega⟩):p:=h
theorem Sv (H:HAt Y w hb bt bm bk n A cap h)(htot:tot h.bs<=1190000000000)(hS:∀t∈h.s.tasks,t.v.Slim 900) :
  Calls Tryz.prog 30 #[.pointer (some ⟨hb,0,none⟩)] w fun r w'=>∃A2 cap2,r= .returned (.slice A2 h.s.tasks.length cap2)/\Below w.heap.size w w'/\TkNew w.heap.size w' A2 cap2 h.s.tasks/\∀b,rowOf A2=some b->w.heap.size<=b:=by
 obtain⟨c0,c1,c2,c3,c4,c5,c6,cf⟩:=FT H.blk
 obtain⟨D,M,hown,hsay,hboth⟩:=LD H.maps.tasks
 have hn:=H.nn
 have hlen:=FZ H.fine
 have hnx:=H.fine.next
 have hp:(h.s.tasks.map (·.id)).Pairwise (· < ·):=by rw[List.pairwise_map];exact H.fine.fine.tasks
 have hgt:∀i (hi:i<h.s.tasks.length),Fb h.s.tasks h.s.tasks[i].id=some h.s.tasks[i]:=fun i hi=>get_at H.fine.fine.tasks hi
 have hlt64:∀t∈h.s.tasks,t.id<18446744073709551616:=fun t ht=>by have:=H.fine.fine.below t ht;omega
 have hent:∀i (hi:i<h.s.tasks.length),∃x,M h.s.tasks[i].id=some x/\TC1 (Ds (YH Y hb A) w) h.s.tasks[i] x:=fun i hi=>by
  have:=hboth _ (hlt64 _ (List.getElem_mem hi))
  rw[hgt i hi] at this
  cases hm:M h.s.tasks[i].id with
  | none=>rw[hm] at this;exact this.elim
  | some x=>rw[hm] at this;exact⟨x,rfl,this⟩
 have hids:∀id,id∈h.s.tasks.map (·.id)↔(id<18446744073709551616/\(M id).isSome=true):=fun id=>by
  constructor
  ·intro q
   obtain⟨t,ht,rfl⟩:=List.mem_map.1 q
   obtain⟨i,hi,rfl⟩:=List.getElem_of_mem ht
   obtain⟨x,hx,-⟩:=hent i hi
   exact⟨hlt64 _ ht,by rw[hx];rfl⟩
  ·intro ⟨q1, q2⟩
   have:=hboth id q1
   obtain⟨x,hx⟩:=Option.isSome_iff_exists.1 q2
   rw[hx] at this
   cases ht:Fb h.s.tasks id with
   | none=>rw[ht] at this;exact this.elim
   | some t=>exact List.mem_map.2 ⟨t,(Fq ht).1,(Fq ht).2⟩
 have hkey':∀id x,(if id<18446744073709551616 then M id else none)=some x->x.id=id:=fun id x hx=>by
  split at hx
  ·rename_i hid
   have:=hboth id hid
   rw[hx] at this
   cases ht:Fb h.s.tasks id with
   | none=>rw[ht] at this;exact this.elim
   | some t=>rw[ht] at this;exact this.1.trans (Fq ht).2
  ·cases hx
 obtain⟨M',hM'⟩:∃M':Nat->Option TC,M'=fun id=>if id<18446744073709551616 then M id else none:=⟨_,rfl⟩
 have hMM:∀id,id<18446744073709551616->M' id=M id:=fun id hid=>by rw[hM'];simp only[if_pos hid]
 have hkey:∀id x,M' id=some x->x.id=id:=fun id x hx=>hkey' id x (by rw[hM'] at hx;exact hx)
 have hsay':Vv D M' Ga:=fun id hid=>by rw[hMM id hid];exact hsay id hid
 have hids':∀id,id∈h.s.tasks.map (·.id)↔(id<18446744073709551616/\(M' id).isSome=true):=fun id=>by
  rw[hids id]
  constructor
  ·intro ⟨q1,q2⟩;exact⟨q1,by rw[hMM id q1];exact q2⟩
  ·intro ⟨q1,q2⟩;exact⟨q1,by rw[hMM id q1] at q2;exact q2⟩
 obtain⟨W1,hW1⟩:=Rm (w.alloc (.cells #[.map (some bt)] 119))
 open Q403 in exact Vi
open Cm (EvsIn)
open Cn (BtsIn)
def CIn (w:World)(u:Value)(n k:Nat)(xs:List Value):Prop:=xs.length=n*k/\(∀x∈xs,x.oneCell'=true)/\∃A cap,u= .slice A n cap/\n<=cap/\cap<=maxLen/\(0<n->∃b off,A=some ⟨b,off,none⟩/\b<w.heap.size/\∀p x,xs[p]?=some x->w.cell? ⟨b,off+p,none⟩=some x)
theorem CIn.leads {u:Value}{n k:Nat}{xs:List Value}(h:CIn v u n k xs)(hl:Leads v w):CIn w u n k xs:=by
 obtain⟨h1,h2,A,cap,h3,h4,h5,h6⟩:=h
 exact⟨h1,h2,A,cap,h3,h4,h5,fun hp=>by
  obtain⟨b,off,q1,q2,q3⟩:=h6 hp
  exact⟨b,off,q1,Nat.lt_of_lt_of_le q2 hl.size,fun p x hx=>hl.cell (q3 p x hx)⟩⟩
theorem CIn.later {u:Value}{n k:Nat}{xs:List Value}(h:CIn w u n k xs)(hb:Below w.heap.size w w'):CIn w' u n k xs:=h.leads (Leads.of_below hb)
theorem CIn.nil (w:World)(k:Nat):CIn w (.slice none 0 0) 0 k []:=⟨O3,O3,none,0,rfl,Nat.le_refl _,Nat.zero_le _,fun h=>absurd h O0⟩
theorem M200 (h:p:=by
 exact⟨none,0,by rw[h0],O0,Nat.zero_le _,fun hp=>absurd hp O0⟩):p:=h
theorem CIn.of_own {base:Nat}{T:TypeId}{k n:Nat}{v:Value}{xs:List Value}(h:w.ownsRow base T k v n xs)(h1:∀x∈xs,x.oneCell'=true):CIn w v n k xs:=by
 refine⟨h.1,h1,?_⟩
 rcases h.2 with ⟨rfl,h0⟩|⟨r,cp,cur,rfl,q2,q3,q4,q5,q6,q7⟩
 ·exact M200
 ·refine ⟨_, cp, rfl, q4, q5, fun _ => ⟨r, 0, rfl, (Array.getElem?_eq_some_iff.1 q3).1, fun p x hx => ?_⟩⟩
  have hlt:=(List.getElem?_eq_some_iff.1 hx).1
  rw[h.1] at hlt
  rw[<-q7,List.getElem?_take_of_lt hlt,Array.getElem?_toList] at hx
  simp[World.cell?,q3,hx]
theorem CIn.new {k:Nat}(w:World)(T:TypeId)(cs:Array Value)(hk:cs.size=k)(h1:∀x∈cs.toList,x.oneCell'=true):CIn (w.alloc (.cells cs T)) (.slice (some ⟨w.heap.size,0,none⟩) 1 1) 1 k cs.toList:=by
 have h:(w.alloc (.cells cs T)).heap[w.heap.size]?=some (.cells cs T (0,0)):=heap_alloc_new w _
 refine⟨by simp[hk],h1,_,1,rfl,Nat.le_refl _,O1,fun _=>⟨w.heap.size,0,rfl,(Array.getElem?_eq_some_iff.1 h).1,fun p x hx=> ?_⟩⟩
 rw[Array.getElem?_toList] at hx
 rw[Nat.zero_add]
 unfold World.cell?
 simp only[h]
 exact hx
theorem PE {t e:TypeId}{k:Nat}(ht:Tryz.prog.underlying t=some (.slice e))(hz:∀w,(Go.sizeOf e).run Tryz.prog w= .ok k w)(W:World)(ty:TypeId)(B:Option Addr)(n c c2:Nat)(h:n<=c):(Builtin.append_ #[t,t] ty #[.slice B n c,.slice none 0 c2]).run Tryz.prog W= .ok (.slice B n c) W:=by
 cases B<;>simp[Builtin.append_,run_underlying ht,hz,Builtin.lenOf,Builtin.firstCells,h,storeCells]
theorem GC (W : World) (t ty e : TypeId) (i0 : TypeInfo) (z : Value) (k by' : Nat) (ht : Tryz.prog.underlying t = some (.slice e)) (hsz : ∀ w, (Go.sizeOf e).run Tryz.prog w = .ok k w) (hi : Tryz.prog.info? e = some i0) (hz0 : i0.zero = some z) (hz1 : i0.size = k) (hz2 : i0.bytes = by') (hzs : z.cells.size = k) (hk : 0 < k)
  (base:Nat) (v u:Value) (n m:Nat) (xs ys:List Value) (hown:W.ownsRow base e k v n xs) (hin:CIn W u m k ys) (h63:n+m<=maxLen) (hby:(n+m)*by'<=140737488355328) (hbase:base<=W.heap.size) :
  ∃v' W',(Builtin.append_ #[t,t] ty #[v,u]).run Tryz.prog W= .ok v' W'/\W'.ownsRow base e k v' (n+m) (xs++ys)/\W.grownBy W' v.ownBlock/\(v'.ownBlock=v.ownBlock\/v'.ownBlock=some W.heap.size):=by
 obtain⟨h1,h2,A,cap,rfl,h4,h5,h6⟩:=hin
 rcases Nat.eq_zero_or_pos m with h0|hp
 ·subst h0
  have hys:ys= []:=List.eq_nil_of_length_eq_zero (by rw[h1,Nat.zero_mul])
  subst hys
  cases A with
  | none=>
   have hv:∃B cp,v= .slice B n cp/\n<=cp:=by
    rcases hown.2 with ⟨rfl,h0⟩|⟨r,cp,cur,rfl,q2,q3,q4,q5⟩
    ·exact⟨none,0,by rw[h0],O0⟩
    ·exact⟨_,cp,rfl,q4⟩
   obtain⟨B,cp,rfl,hcp⟩:=hv
   exact⟨_,W,PE ht hsz W ty B n cp cap hcp,by rw[List.append_nil];exact hown,⟨rfl,rfl,rfl,Nat.le_refl _,fun _ _ _=>rfl⟩,.inl rfl⟩
  | some a=>
   obtain⟨v',W',hr,ho,hg,-,hb⟩:=run_append_own_at (P:=Tryz.prog) W base t ty e i0 z k by' ht hi hz0 hz1 hz2 hzs hk v n xs hown a 0 cap [] O3 (fun j u hu=>by simp at hu) O3 h63 hby hbase
   exact⟨v',W',hr,ho,hg,hb⟩
 ·obtain ⟨b, off, rfl, q1, q2⟩ := h6 hp
  obtain ⟨v', W', hr, ho, hg, -, hb⟩ := run_append_own_at (P := Tryz.prog) W base t ty e i0 z k by' ht hi hz0 hz1 hz2 hzs hk v n xs hown ⟨b, off, none⟩ m cap ys h1 (fun j u hu => by
   rw[show (⟨b,off,none⟩:Addr).add j=⟨b,off+j,none⟩ from by unfold Addr.add;split<;>simp_all]
   exact q2 j u hu) h2 h63 hby hbase
  exact⟨v',W',hr,ho,hg,hb⟩
theorem Dd {ops : Array Oper} {o : Oper} {a : Act} {K : Act -> World -> Prop} {Q : Exit -> Act -> World -> Prop} {E : Prop} (W : World) (hgd : o.guard = none) (s x : Operand) (t e : TypeId) (ho : o.op = .call { callee := .builtin .append, args := #[s, x], argTypes := #[t, t] })
  (i0:TypeInfo) (z:Value) (k by':Nat) (ht:Tryz.prog.underlying t=some (.slice e)) (hsz:∀w,(Go.sizeOf e).run Tryz.prog w= .ok k w) (hi:Tryz.prog.info? e=some i0) (hz0:i0.zero=some z) (hz1:i0.size=k) (hz2:i0.bytes=by') (hzs:z.cells.size=k) (hk:0<k)
  (base:Nat) (v u:Value) (n m:Nat) (xs ys:List Value) (hv:a.eval s=v) (hx:a.eval x=u) (hown:W.ownsRow base e k v n xs) (hin:CIn W u m k ys) (h63:n+m<=maxLen) (hby:(n+m)*by'<=140737488355328) (hbase:base<=W.heap.size)
  (h:∀v' W',W'.ownsRow base e k v' (n+m) (xs++ys)->W.grownBy W' v.ownBlock->K (a.put o.dst v') W'):if Region.wanted o (yielded ops a.tmps)=true then Oper.wp Tryz.prog o a W K Q else E:=by
 have hw:Region.wanted o (yielded ops a.tmps)=true:=by simp[Region.wanted,hgd]
 rw[if_pos hw]
 obtain⟨v',W',hr,q1,q2,-⟩:=GC W t o.type e i0 z k by' ht hsz hi hz0 hz1 hz2 hzs hk base v u n m xs ys hown hin h63 hby hbase
 exact Lib.wp_append_run W s x _ _ ho _ _ hv hx _ W' hr (h v' W' q1 q2)
theorem Dq {ops : Array Oper} {rest : List Oper} {o : Oper} {a : Act} {Q : Exit -> Act -> World -> Prop} (W : World) (hgd : o.guard = none) (s x : Operand) (t e : TypeId) (ho : o.op = .call { callee := .builtin .append, args := #[s, x], argTypes := #[t, t] })
  (i0:TypeInfo) (z:Value) (k by':Nat) (ht:Tryz.prog.underlying t=some (.slice e)) (hsz:∀w,(Go.sizeOf e).run Tryz.prog w= .ok k w) (hi:Tryz.prog.info? e=some i0) (hz0:i0.zero=some z) (hz1:i0.size=k) (hz2:i0.bytes=by') (hzs:z.cells.size=k) (hk:0<k)
  (base:Nat) (v u:Value) (n m:Nat) (xs ys:List Value) (hv:a.eval s=v) (hx:a.eval x=u) (hown:W.ownsRow base e k v n xs) (hin:CIn W u m k ys) (h63:n+m<=maxLen) (hby:(n+m)*by'<=140737488355328) (hbase:base<=W.heap.size)
  (h:∀v' W',W'.ownsRow base e k v' (n+m) (xs++ys)->W.grownBy W' v.ownBlock->(v'.ownBlock=v.ownBlock\/v'.ownBlock=some W.heap.size)->wpList Tryz.prog ops Q rest (a.put o.dst v') W'):wpList Tryz.prog ops Q (o::rest) a W:=by
 obtain⟨v',W',hr,q1,q2,q3⟩:=GC W t o.type e i0 z k by' ht hsz hi hz0 hz1 hz2 hzs hk base v u n m xs ys hown hin h63 hby hbase
 exact Lib.wpList_append_run W hgd s x _ _ ho _ _ hv hx _ W' hr (h v' W' q1 q2 q3)
def TkC (V:World)(xs:List Value)(ts:List TK):Prop:=xs.length=ts.length*10/\∀i (h:i<ts.length),∃lo hi k n f s A m c,TOk ts[i]/\Rep V lo hi ts[i].v (Dn k n f s A m c)/\hi<=V.heap.size/\∀q,q<10->xs[i*10+q]?=(DA ts[i] k n f s A m c)[q]?
theorem TkC.leads {xs:List Value}{ts:List TK}(h:TkC v xs ts)(hl:Leads v w):TkC w xs ts:=⟨h.1,fun i hi=>by
 obtain⟨lo,hi2,k,n,f,s,A,m,c,q1,q2,q3,q4⟩:=h.2 i hi
 exact⟨lo,hi2,k,n,f,s,A,m,c,q1,Rep.leads q2 hl,Nat.le_trans q3 hl.size,q4⟩⟩
theorem TkC.append {xs ys:List Value}{ts us:List TK}(h:TkC V xs ts)(k:TkC V ys us):TkC V (xs++ys) (ts++us):=by
 have h1:=h.1;have k1:=k.1
 refine⟨by simp only[List.length_append];omega,fun i hi=> ?_⟩
 rw[List.length_append] at hi
 by_cases hlt:i<ts.length
 ·rw [List.getElem_append_left hlt]
  obtain⟨lo,hi2,k,n,f,s,A,m,c,q1,q2,q3,q4⟩:=h.2 i hlt
  exact⟨lo,hi2,k,n,f,s,A,m,c,q1,q2,q3,fun q hq=>by rw[List.getElem?_append_left O0];exact q4 q hq⟩
 ·rw [List.getElem_append_right O0]
  obtain⟨lo,hi2,k,n,f,s,A,m,c,q1,q2,q3,q4⟩:=k.2 (i-ts.length) O0
  exact⟨lo,hi2,k,n,f,s,A,m,c,q1,q2,q3,fun q hq=>by rw[List.getElem?_append_right O0, <-q4 q hq];congr 1;omega⟩
theorem TkC.take {xs:List Value}{ts:List TK}(h:TkC V xs ts)(j:Nat)(hj:j<=ts.length):TkC V (xs.take (j*10)) (ts.take j):=by
 have h1:=h.1
 refine⟨by simp only[List.length_take];omega,fun i hi=> ?_⟩
 rw[List.length_take] at hi
 rw[List.getElem_take]
 obtain⟨lo,hi2,k,n,f,s,A,m,c,q1,q2,q3,q4⟩:=h.2 i O0
 exact⟨lo,hi2,k,n,f,s,A,m,c,q1,q2,q3,fun q hq=>by rw[List.getElem?_take_of_lt O0];exact q4 q hq⟩
theorem TkC.drop {xs:List Value}{ts:List TK}(h:TkC V xs ts)(j:Nat)(hj:j<=ts.length):TkC V (xs.drop (j*10)) (ts.drop j):=by
 have h1:=h.1
 refine⟨by simp only[List.length_drop];omega,fun i hi=> ?_⟩
 rw[List.length_drop] at hi
 rw[List.getElem_drop]
 obtain⟨lo,hi2,k,n,f,s,A,m,c,q1,q2,q3,q4⟩:=h.2 (j+i) O0
 exact⟨lo,hi2,k,n,f,s,A,m,c,q1,q2,q3,fun q hq=>by rw[List.getElem?_drop, <-q4 q hq];congr 1;omega⟩
theorem TkC.nil (V:World):TkC V [] []:=⟨rfl,fun i h=>absurd h O3⟩
theorem TkC.one {t:TK}{lo hi:Nat}{k n:Int}{f:Nat}{s:ByteArray}{A:Option Addr}{m c:Nat}(ht:TOk t)(hr:Rep V lo hi t.v (Dn k n f s A m c))(hh:hi<=V.heap.size):TkC V (DA t k n f s A m c).toList [t]:=⟨rfl,fun i hi'=>by
 obtain rfl:i=0:=by simpa using hi'
 exact⟨lo,hi,k,n,f,s,A,m,c,ht,hr,hh,fun q hq=>by rw[Nat.zero_mul,Nat.zero_add,Array.getElem?_toList];rfl⟩⟩
def TmC (xs:List Value)(l:List (Nat×Nat)):Prop:=xs=l.flatMap DU
def StC (xs:List Value)(ks:List ByteArray):Prop:=xs=ks.map Value.string/\∀s∈ks,s.size<=maxLen
def BtC (V:World)(xs:List Value)(bl:List BT):Prop:=xs.length=bl.length*3/\∀i (h:i<bl.length),BCell V xs i bl[i]
theorem BtC.leads {xs:List Value}{bl:List BT}(h:BtC v xs bl)(hl:Leads v w):BtC w xs bl:=⟨h.1,fun i hi=>(h.2 i hi).leads hl⟩
theorem BtC.append {xs ys:List Value}{ts us:List BT}(h:BtC V xs ts)(k:BtC V ys us):BtC V (xs++ys) (ts++us):=by
 have h1:=h.1;have k1:=k.1
 refine⟨by simp only[List.length_append];omega,fun i hi=> ?_⟩
 rw[List.length_append] at hi
 by_cases hlt:i<ts.length
 ·rw [List.getElem_append_left hlt]
  obtain⟨A,c,q1,q2,q3,q4,q5,q6⟩:=h.2 i hlt
  exact⟨A,c,q1,q2,q3,by rw[List.getElem?_append_left O0];exact q4,by rw[List.getElem?_append_left O0];exact q5,by rw[List.getElem?_append_left O0];exact q6⟩
 ·rw [List.getElem_append_right O0]
  obtain⟨A,c,q1,q2,q3,q4,q5,q6⟩:=k.2 (i-ts.length) O0
  exact⟨A,c,q1,q2,q3,by rw[List.getElem?_append_right O0, <-q4];congr 1;omega,by rw[List.getElem?_append_right O0, <-q5];congr 1;omega,by rw[List.getElem?_append_right O0, <-q6];congr 1;omega⟩
theorem BtC.one {b:BT}{A:Option Addr}{c:Nat}(h1:b.flow.size<=maxLen)(h2:b.at'<18446744073709551616)(h3:EvsIn V A c b.es):BtC V [.string b.flow,.int .u64 (b.at':Nat),.slice A b.es.length c] [b]:=⟨rfl,fun i hi=>by
 obtain rfl:i=0:=by simpa using hi
 exact⟨A,c,h1,h2,h3,rfl,rfl,rfl⟩⟩
theorem BtC.nil (V:World):BtC V [] []:=⟨rfl,fun i h=>absurd h O3⟩
def rhC (f:ByteArray)(ub:Value)(closed:Int)(next:Nat)(uk ut um:Value):Array Value:= #[.string f,ub,.int .i64 closed,.int .u64 (next:Nat),uk,ut,um]
def RTk (w:World)(u:Value)(ts:List TK):Prop:=∃xs,CIn w u ts.length 10 xs/\TkC w xs ts
def RTm (w:World)(u:Value)(l:List (Nat×Nat)):Prop:=∃xs,CIn w u l.length 2 xs/\TmC xs l
def RSt (w:World)(u:Value)(ks:List ByteArray):Prop:=∃xs,CIn w u ks.length 1 xs/\StC xs ks
def RBt (w:World)(u:Value)(bl:List BT):Prop:=∃xs,CIn w u bl.length 3 xs/\BtC w xs bl
structure RH (w : World) (h : HM) (ub uk ut um : Value) : Prop where
 bs:RBt w ub h.bs
 keys:RSt w uk h.s.keys
 tasks:RTk w ut h.s.tasks
 timers:RTm w um h.s.timers
theorem RH.leads {hm:HM}{ub uk ut um:Value}(h:RH v hm ub uk ut um)(hl:Leads v w):RH w hm ub uk ut um:=
 ⟨h.bs.elim fun xs k=>⟨xs,k.1.leads hl,k.2.leads hl⟩,h.keys.elim fun xs k=>⟨xs,k.1.leads hl,k.2⟩,h.tasks.elim fun xs k=>⟨xs,k.1.leads hl,k.2.leads hl⟩,h.timers.elim fun xs k=>⟨xs,k.1.leads hl,k.2⟩⟩
theorem RH.later {hm:HM}{ub uk ut um:Value}(h:RH w hm ub uk ut um)(hb:Below w.heap.size w w'):RH w' hm ub uk ut um:=h.leads (Leads.of_below hb)
theorem rh_new (w:World)(f:ByteArray):RH w (HM.new f) (.slice none 0 0) (.slice none 0 0) (.slice none 0 0) (.slice none 0 0):=
 ⟨⟨[],CIn.nil w 3,BtC.nil w⟩,⟨[],CIn.nil w 1,rfl,fun s h=>by simp[HM.new] at h⟩,⟨[],CIn.nil w 10,TkC.nil w⟩,⟨[],CIn.nil w 2,rfl⟩⟩
open _root_.Go.Proofs.YtaahfiopdoinkaaGreat.Nm (Dk De)
def RX (w:World)(g:Nat)(f:ByteArray)(ub:Value)(cl:Int)(nx:Nat)(uk ut um:Value):Prop:=w.heap[g]?=some (.cells (rhC f ub cl nx uk ut um) 84 (0,0))
theorem RX.new (w:World)(f:ByteArray)(ub:Value)(cl:Int)(nx:Nat)(uk ut um:Value):RX (w.alloc (.cells (rhC f ub cl nx uk ut um) 84)) w.heap.size f ub cl nx uk ut um:=heap_alloc_new w _
theorem RX.later {g B:Nat}{f:ByteArray}{ub uk ut um:Value}{cl:Int}{nx:Nat}(h:RX w g f ub cl nx uk ut um)(hb:Below B w w')(hg:g<B):RX w' g f ub cl nx uk ut um:=(hb.block g hg).trans h
theorem RX.lt {g:Nat}{f:ByteArray}{ub uk ut um:Value}{cl:Int}{nx:Nat}(h:RX w g f ub cl nx uk ut um):g<w.heap.size:=(Array.getElem?_eq_some_iff.1 h).1
theorem RX.cells {g:Nat}{f:ByteArray}{ub uk ut um:Value}{cl:Int}{nx:Nat}(h:RX w g f ub cl nx uk ut um) :
  w.cell? ⟨g,0,none⟩=some (.string f)/\w.cell? ⟨g,1,none⟩=some ub/\w.cell? ⟨g,2,none⟩=some (.int .i64 cl)/\w.cell? ⟨g,3,none⟩=some (.int .u64 (nx:Nat))/\w.cell? ⟨g,4,none⟩=some uk/\w.cell? ⟨g,5,none⟩=some ut/\w.cell? ⟨g,6,none⟩=some um/\(∀o,w.frozen? ⟨g,o,none⟩=false):=by
 unfold RX rhC at h;simp[World.cell?,World.frozen?,h]
theorem Fk {B g:Nat}(h:Below B w w')(hg:B<=g)(a b c d e f k:Value):Below B w (((((((w'.setCell ⟨g,0,none⟩ a).setCell ⟨g,1,none⟩ b).setCell ⟨g,2,none⟩ c).setCell ⟨g,3,none⟩ d).setCell ⟨g,4,none⟩ e).setCell ⟨g,5,none⟩ f).setCell ⟨g,6,none⟩ k):=
 ((((((h.setCell (p:=⟨g,0,none⟩) hg _).setCell (p:=⟨g,1,none⟩) hg _).setCell (p:=⟨g,2,none⟩) hg _).setCell (p:=⟨g,3,none⟩) hg _).setCell (p:=⟨g,4,none⟩) hg _).setCell (p:=⟨g,5,none⟩) hg _).setCell (p:=⟨g,6,none⟩) hg _
theorem rlast {l:List BT}{f:ByteArray}{s:ST}(hp:0<l.length)(q:Nat)(hq:q<l.length)(e:q=l.length-1):HM.at' ⟨f,l,s⟩=l[q].at':=by
 subst e
 unfold HM.at'
 rw[List.getLast?_eq_getElem?,List.getElem?_eq_getElem hq]
theorem rnew_any (f:ByteArray)(w:World):Calls Tryz.prog 49 #[.string f] w fun r w'=>r= .returned (.agg (rhC f (.slice none 0 0) 0 1 (.slice none 0 0) (.slice none 0 0) (.slice none 0 0)))/\Below w.heap.size w w':=by
 obtain⟨W0,hW0⟩:=Rm (w.alloc (.cells (rhC ⟨#[]⟩ (.slice none 0 0) 0 0 (.slice none 0 0) (.slice none 0 0) (.slice none 0 0)) 84))
 have hx:RX W0 w.heap.size ⟨#[]⟩ (.slice none 0 0) 0 0 (.slice none 0 0) (.slice none 0 0) (.slice none 0 0):=by rw[hW0];exact RX.new ..
 have HB:=U (show Below w.heap.size w W0 by rw[hW0];exact Rl)
 obtain⟨x0,x1,x2,x3,x4,x5,x6,xf⟩:=hx.cells
 unfold rhC at hW0 ⊢
 rw[show ((0:Nat):Int)=0 from rfl] at hW0 x3
 replace hW0:=U hW0
 clear hx
 go_enter Tryz.func49,Tryz.ntmps49
 go_upto_region 1 with fail
 rw[<-hW0.out]
 have xf0:=xf 0;have xf1:=xf 1;have xf2:=xf 2;have xf3:=xf 3;have xf4:=xf 4;have xf5:=xf 5;have xf6:=xf 6
 go_wp2_with fail
 refine bodyPost_ret (v:= .agg #[.string f,.slice none 0 0,.int .i64 0,.int .u64 ((1:Nat):Int),.slice none 0 0,.slice none 0 0,.slice none 0 0]) (by simp[results,Tryz.results49,go_sem,x0,x1,x2,x3,x4,x5,x6]) rfl ?_
 refine⟨rfl,?_⟩
 exact Fk HB.out (Nat.le_refl _) _ _ _ _ _ _ _
theorem M177 (h:p:=by
 go_enter Tryz.func80,Tryz.ntmps80
 go_upto_region 1 with fail
 rw[<-hW0.out]
 go_wp2_with fail
 go_ret
 exact⟨rfl,HB.out⟩):p:=h
theorem rat_any (hm:HM)(f:ByteArray)(ub uk ut um:Value)(cl:Int)(nx:Nat)(w:World)(h:RBt w ub hm.bs) :
  Calls Tryz.prog 80 #[.agg (rhC f ub cl nx uk ut um)] w fun r w'=>r= .returned (.int .u64 (hm.at':Nat))/\Below w.heap.size w w':=by
 obtain⟨xs,⟨hlen,h1,A,cap,rfl,hle,hcap,hrd⟩,hbt⟩:=h
 simp only[maxLen] at hcap
 obtain⟨ff,l,s⟩:=hm
 dsimp only at hlen hle hrd hbt ⊢
 obtain⟨W0,hW0⟩:=Rm (w.alloc (.cells (rhC f (.slice A l.length cap) cl nx uk ut um) 84))
 have hx:RX W0 w.heap.size f (.slice A l.length cap) cl nx uk ut um:=by rw[hW0];exact RX.new ..
 have hb0:Below w.heap.size w W0:=by rw[hW0];exact Rl
 obtain⟨x0,x1,x2,x3,x4,x5,x6,xf⟩:=hx.cells
 unfold rhC at hW0 ⊢
 replace hW0:=U hW0
 have HB:=U hb0
 obtain⟨m,hm⟩:=Rm (l.length)
 rw[<-hm] at hW0 x1 hle hrd ⊢
 by_cases hp:0<m
 ·obtain ⟨b, off, rfl, hlt, h3⟩ := hrd hp
  obtain⟨q,hq⟩:=Rm (m-1)
  have hqm:q<m:=O0
  obtain⟨A',c',-,hatl,-,-,d1,-⟩:=hbt.2 q O0
  have hd1:=(hb0.cell (p:=⟨b,off+(q*3+1),none⟩) hlt).trans (h3 _ _ d1)
  have HE:=U (rlast (l:=l) (f:=ff) (s:=s) O0 q O0 O0)
  have hm0:((m:Int)==0)=false:=by simp;omega
  generalize hla:l[q].at'=la at *
  rw[HE.out]
  rw[<-Nat.add_assoc] at hd1
  subst hq
  clear hm h3 hbt d1 hlen h1 hrd hx x0 x2 x3 x4 x5 x6 xf HE hb0 hla
  exact M177
 ·obtain rfl : m = 0 := O0
  have hl0:l= []:=List.eq_nil_of_length_eq_zero hm.symm
  subst hl0
  clear hm hbt hlen h1 hrd hx x0 x2 x3 x4 x5 x6 xf hb0 hp hle hcap
  exact M177
theorem Q767.Y765 (h:p:=by
 unfold rhC at hW0 ⊢
 replace hW0:=U hW0
 have HB:=U hb0;have HX:=U hx;have HZ:=U hz0;have HT:=U hbt;have HR:=U hrd
 obtain⟨m,hm⟩:=Rm (ts.length)
 have HM:=U hm
 clear hx hb0 hz0 hbt hrd hlen h1
 rw[<-hm] at hW0 hle HX HR ⊢
 clear hm
 go_enter Tryz.func113,Tryz.ntmps113
 go_upto_region 1 with fail
 rw[<-hW0.out]
 go_wp2_with fail
 go_loopw [4,5] (fun r i wr=>∃(j:Nat),j<=m/\i= .int .i64 j/\r= .int .i64 0/\(∀q (hq:q<ts.length),q<j->ts[q].id≠id)/\wr=W0) (fun _ i _=>m-(intOf i).toNat)
 case atStart=>exact⟨0,O0,rfl,rfl,fun q _ hq=>absurd hq O0,rfl⟩
 case round=>
  obtain⟨j,hj,rfl,rfl,hno,rfl⟩:=hrel
  have HN:=U hno;clear hno
  obtain⟨x0,x1,x2,x3,x4,x5,x6,xf⟩:=HX.out.cells
  clear x0 x1 x2 x3 x4 x6 xf
  by_cases hlt:j<m
  ·obtain ⟨b, off, rfl, hblt, h3⟩ := HR.out O0
   obtain⟨lo,hi,k,n,ff,s,A',c,c',⟨hti,-,-⟩,-,-,hq⟩:=HT.out.2 j (by have:=HM.out;omega)
   have d:=h3 (j*10+0) (.int .u64 ((ts[j]'(by have:=HM.out;omega)).id:Nat)) (by rw[hq 0 O0];rfl)
   have hd:=(HB.out.cell (p:=⟨b,off+(j*10+0),none⟩) hblt).trans d
   rw[Nat.add_zero] at hd
   generalize htid:(ts[j]'(by have:=HM.out;omega)).id=tid at *
   have HTI:=U htid
   clear hq h3 d htid
   by_cases he:tid=id
   ·subst he
    go_wp2_with fail
    go_ret
    exact⟨⟨_,rfl,.inr ⟨j,by have:=HM.out;omega,rfl,HTI.out⟩⟩,HB.out⟩
   ·have hne : ((tid : Int) == (id : Int)) = false := by simp; omega
    go_wp2_with fail
    go_roundw
    case rel => exact ⟨j + 1, O0, by go_num, rfl, fun q hq hlq => by
     by_cases e:q=j
     ·subst e;rw[HTI.out];exact he
     ·exact HN.out q hq O0,trivial⟩
    case measure=>simp[intOf];omega
  ·have hj' : j = m := O0
   subst hj'
   go_wp2_with fail
   go_ret
   exact⟨⟨_,rfl,.inl ⟨rfl,fun t ht=>by
    obtain⟨q,hq,rfl⟩:=List.getElem_of_mem ht
    exact HN.out q hq (by have:=HM.out;omega)⟩⟩,HB.out⟩):p:=h
theorem Nd (ts:List TK)(id:Nat)(hid:id<18446744073709551616)(f:ByteArray)(ub uk ut um:Value)(cl:Int)(nx:Nat)(w:World)(h:RTk w ut ts) :
  Calls Tryz.prog 113 #[.agg (rhC f ub cl nx uk ut um),.int .u64 (id:Nat)] w fun r w'=>(∃n,r= .returned (.int .i64 n)/\IdxIs ts id n)/\Below w.heap.size w w':=by
 obtain⟨xs,⟨hlen,h1,A,cap,rfl,hle,hcap,hrd⟩,hbt⟩:=h
 simp only[maxLen] at hcap
 obtain⟨W0,hW0⟩:=Rm (w.alloc (.cells (rhC f ub cl nx uk (.slice A ts.length cap) um) 84))
 have hx:RX W0 w.heap.size f ub cl nx uk (.slice A ts.length cap) um:=by rw[hW0];exact RX.new ..
 open Q767 in exact M765
theorem rhas_any (ks:List ByteArray)(key:ByteArray)(hks:key.size<=maxLen)(f:ByteArray)(ub uk ut um:Value)(cl:Int)(nx:Nat)(w:World)(h:RSt w uk ks) :
  Calls Tryz.prog 115 #[.agg (rhC f ub cl nx uk ut um),.string key] w fun r w'=>r= .returned (.bool (OG ks key))/\Below w.heap.size w w':=by
 obtain⟨xs,⟨hlen,h1,A,cap,rfl,hle,hcap,hrd⟩,hbt⟩:=h
 simp only[maxLen] at hcap
 obtain⟨W0,hW0⟩:=Rm (w.alloc (.cells (rhC f ub cl nx (.slice A ks.length cap) ut um) 84))
 have hx:RX W0 w.heap.size f ub cl nx (.slice A ks.length cap) ut um:=by rw[hW0];exact RX.new ..
 have hb0:Below w.heap.size w W0:=by rw[hW0];exact Rl
 unfold rhC at hW0 ⊢
 replace hW0:=U hW0
 have HB:=U hb0;have HX:=U hx;have HT:=U hbt;have HR:=U hrd
 obtain⟨m,hm⟩:=Rm (ks.length)
 have HM:=U hm
 clear hx hb0 hbt hrd hlen h1
 rw[<-hm] at hW0 hle HX HR ⊢
 clear hm
 go_enter Tryz.func115,Tryz.ntmps115
 go_upto_region 1 with fail
 rw[<-hW0.out]
 go_wp2_with fail
 go_loopw [4,5] (fun r i wr=>∃(j:Nat),j<=m/\i= .int .i64 j/\r= .bool false/\(∀q (hq:q<ks.length),q<j->ks[q]≠key)/\wr=W0) (fun _ i _=>m-(intOf i).toNat)
 case atStart=>exact⟨0,O0,rfl,rfl,fun q _ hq=>absurd hq O0,rfl⟩
 case round=>
  obtain⟨j,hj,rfl,rfl,hno,rfl⟩:=hrel
  have HN:=U hno;clear hno
  obtain⟨x0,x1,x2,x3,x4,x5,x6,xf⟩:=HX.out.cells
  clear x0 x1 x2 x3 x5 x6 xf
  by_cases hlt:j<m
  ·obtain ⟨b, off, rfl, hblt, h3⟩ := HR.out O0
   have hjk:j<ks.length:=by have:=HM.out;omega
   have d:=h3 (j*1) (.string ks[j]) (by rw[HT.out.1];simp[hjk])
   have hd:=(HB.out.cell (p:=⟨b,off+j*1,none⟩) hblt).trans d
   have hks':=HT.out.2 ks[j] (List.getElem_mem hjk)
   generalize htid:ks[j]=tk at *
   have HTI:=U htid
   clear h3 d htid
   simp only[maxLen] at hks hks'
   rw[Nat.mul_one] at hd
   obtain⟨bb,hbb⟩:=Rm ((tk.toList==key.toList))
   have hbe:bb=decide (tk=key):=by
    rw[hbb]
    by_cases e:tk=key
    ·rw[e];simp
    ·exact M166
   by_cases he:tk=key
   ·obtain rfl : bb = true := by rw [hbe]; exact decide_eq_true he
    have hbb':=hbb.symm
    clear hbb hbe
    subst he
    have HMem:Hid (ks.any (fun x=>decide (x=tk))=true):=U (List.any_eq_true.2 ⟨tk,by rw[<-HTI.out];exact List.getElem_mem hjk,O3⟩)
    go_wp2_with fail
    go_ret
    refine⟨De ?_,HB.out⟩
    unfold OG
    rw[HMem.out,Bool.and_true]
    have e:(tk.toList.isEmpty=true)↔tk.size=0:=by
     rw[Vt.toList_data]
     show _↔tk.data.size=0
     rw[List.isEmpty_iff, <-Array.length_toList,List.length_eq_zero_iff]
    rw[Bool.eq_iff_iff]
    simp only[Bool.not_eq_true',ne_eq,decide_eq_true_eq,decide_not]
    rw[<-Bool.not_eq_true,e]
    simp
   ·obtain rfl : bb = false := by rw [hbe]; exact decide_eq_false he
    have HNE:=U he
    clear hbe he
    have hbb':=hbb.symm
    clear hbb
    go_wp2_with fail
    go_roundw
    case rel => exact ⟨j + 1, O0, by go_num, rfl, fun q hq hlq => by
     by_cases e:q=j
     ·subst e;rw[HTI.out];exact HNE.out
     ·exact HN.out q hq O0,trivial⟩
    case measure=>simp[intOf];omega
  ·have hj' : j = m := O0
   subst hj'
   go_wp2_with fail
   go_ret
   refine⟨De ?_,HB.out⟩
   unfold OG
   rw[List.any_eq_false.2 (fun t ht=>by
    obtain⟨q,hq,rfl⟩:=List.getElem_of_mem ht
    simpa using HN.out q hq (by have:=HM.out;omega)),Bool.and_false]
theorem Tryz.infoRt : (Tryz.prog.info? 39).map (fun i=>(i.zero,i.size,i.bytes))=some (some (.agg #[.int .u64 0,.string ⟨#[]⟩,.int .i64 0,.int .i64 0,.float .f64 0,.string ⟨#[]⟩,.slice none 0 0,.int .i64 0,.bool false,.int .u64 0]),10,112):=O2
theorem Od {e:TypeId}{i0:TypeInfo}{k:Nat}(hi:Tryz.prog.info? e=some i0)(h1:i0.size=k):∀w,(Go.sizeOf e).run Tryz.prog w= .ok k w:=fun w=>by
 rw[run_sizeOf _ hi];simp[Program.cellsOf,hi,h1]
theorem Dg {B:Nat}{W W':World}{row:Option Nat}(h:Below B w W)(g:W.grownBy W' row)(hr:∀r,row=some r->B<=r)(hB:B<=W.heap.size):Below B w W':=
 h.trans ⟨g.os,g.tape,g.output,g.size,fun b hb=>g.block b O0 (fun e=>by have:=hr b e.symm;omega)⟩
theorem CIn.mk' {b off m k cp:Nat}{xs:List Value}(h0:xs.length=m*k)(h1:∀x∈xs,x.oneCell'=true)(h2:m<=cp)(h3:cp<=maxLen)(h4:b<w.heap.size)(h5:∀p x,xs[p]?=some x->w.cell? ⟨b,off+p,none⟩=some x):CIn w (.slice (some ⟨b,off,none⟩) m cp) m k xs:=
 ⟨h0,h1,_,cp,rfl,h2,h3,fun _=>⟨b,off,rfl,h4,h5⟩⟩
theorem CIn.take {b off m k cp j:Nat}{xs:List Value}(h0:xs.length=m*k)(h1:∀x∈xs,x.oneCell'=true)(h2:m<=cp)(h3:cp<=maxLen)(h4:b<w.heap.size)(h5:∀p x,xs[p]?=some x->w.cell? ⟨b,off+p,none⟩=some x)(hj:j<=m):CIn w (.slice (some ⟨b,off,none⟩) j cp) j k (xs.take (j*k)):=
 CIn.mk' (by have := Nat.mul_le_mul_right k hj; rw [List.length_take]; omega) (fun x hx => h1 x (List.mem_of_mem_take hx)) O0 h3 h4 fun p x hx => by
  rw[List.getElem?_take] at hx
  split at hx
  ·exact h5 p x hx
  ·cases hx
theorem CIn.drop {b off m k cp j:Nat}{xs:List Value}(h0:xs.length=m*k)(h1:∀x∈xs,x.oneCell'=true)(h2:m<=cp)(h3:cp<=maxLen)(h4:b<w.heap.size)(h5:∀p x,xs[p]?=some x->w.cell? ⟨b,off+p,none⟩=some x)(hj:j<=m):CIn w (.slice (some ⟨b,off+j*k,none⟩) (m-j) (cp-j)) (m-j) k (xs.drop (j*k)):=
 CIn.mk' (by rw [List.length_drop, h0, Nat.sub_mul]) (fun x hx => h1 x (List.mem_of_mem_drop hx)) O0 O0 h4 fun p x hx => by
  rw[List.getElem?_drop] at hx
  rw[Nat.add_assoc]
  exact h5 _ x hx
theorem Us (t:TK)(k n:Int)(f:Nat)(s:ByteArray)(A:Option Addr)(m c:Nat):∀x∈(DA t k n f s A m c).toList,x.oneCell'=true:=by
 intro x hx
 simp[DA] at hx
 rcases hx with rfl|rfl|rfl|rfl|rfl|rfl|rfl|rfl|rfl|rfl<;>rfl
theorem M105 (h:p:=by
 have HB4:Hid (Below w.heap.size w w3):=U (HBW.out _ (Dg HB3.out hgrow4 HV2.out hv3.out))
 have HO4:=U hown4
 clear hown4 hgrow4 hat4
 go_ret
 exact⟨v3,rfl,(by have q:=HO4.out;rw[List.append_assoc,Nat.add_assoc] at q;exact q),HB4.out⟩):p:=h
theorem M130 (h:p:=by
 have HB4:Hid (Below w.heap.size w w3):=U (HBW.out _ (Dg HB1'.out hgrow4 HV1.out hv1.out))
 have HO4:=U hown4
 clear hown4 hgrow4 hat4
 go_ret
 exact⟨v3,rfl,HO4.out,HB4.out⟩):p:=h
theorem M163 (h:p:=by
 rcases hat3 with e|e
 ·exact HV1.out r (e.symm.trans hr)
 ·have e2:W2.heap.size=r:=Option.some.inj (e.symm.trans hr);have:=hv2.out;omega):p:=h
theorem M187 (h:p:=by
 exact⟨O3,O3,_,0,rfl,Nat.zero_le _,Nat.zero_le _,fun h=>absurd h O0⟩):p:=h
theorem Q262.Y261 (h:p:=by
 go_wp2_with (at_builtin;refine Dq _ rfl _ _ 44 39 rfl i0 _ 10 112 Tryz.underlying44 HSZ.out hi0 hz0 hz1 hz2 rfl O1 w.heap.size _ _ (i+1) (N-(i+1)) (xs.take (i*10)++(DA t k n f s A m c).toList) (xs.drop ((i+1)*10)) rfl rfl HO3'.out (HT4.out _ (HBW.out _ HB3.out)) (by simp only[maxLen];omega) O0 (HBW.out _ HB3.out).size ?_;intro v3 w3 hown4 hgrow4 hat4)
 exact M105):p:=h
theorem Q263.Y261 (h:p:=by
 go_wp2_with (at_builtin;refine Dq _ rfl _ _ 44 39 rfl i0 _ 10 112 Tryz.underlying44 HSZ.out hi0 hz0 hz1 hz2 rfl O1 w.heap.size _ _ (i+1) (N-(i+1)) (xs.take (i*10)++(DA t k n f s A m c).toList) (xs.drop ((i+1)*10)) rfl rfl HO3'.out (HT2.out _ (HBW.out _ HB3.out)) (by simp only[maxLen];omega) O0 (HBW.out _ HB3.out).size ?_;intro v3 w3 hown4 hgrow4 hat4)
 exact M105):p:=h
theorem M261 (h:p:=by
 obtain⟨W2,hW2⟩:=Rm (w1.alloc (.cells #[.int .u64 (t.id:Nat),.string t.name,.int .i64 k,.int .i64 n,.float .f64 f,.string s,.slice A m c,.int .i64 t.n,.bool t.fl,.int .u64 (t.at':Nat)] 39))
 have hb2:Below (w.heap.size+1) W0 W2:=by rw[hW2];exact HB1'.out.alloc hv1.out _
 have HO3:Hid (W2.ownsRow w.heap.size 39 10 v1 i (xs.take (i*10))):=U (by rw[hW2];exact HO2.out.alloc _)
 have HI3:Hid (CIn W2 (.slice (some ⟨w1.heap.size,0,none⟩) 1 1) 1 10 (DA t k n f s A m c).toList):=U (by rw[hW2];exact CIn.new w1 _ _ rfl (Us t k n f s A m c))
 have hs2:W2.heap.size=w1.heap.size+1:=by rw[hW2];simp
 have HS2:=U hs2;have HB2:=U hb2
 have hv2:Hid (w.heap.size+1<=W2.heap.size):=U (by have:=hv1.out;omega)
 clear hs2 hb2
 replace hW2:=U hW2
 have e0:=HTB.out w1 HB1'.out
 have c0:w1.cell? ⟨w.heap.size,0,none⟩=some (.int .u64 (t.id:Nat)):=by simp[World.cell?,e0]
 have c1:w1.cell? ⟨w.heap.size,1,none⟩=some (.string t.name):=by simp[World.cell?,e0]
 have c2:w1.cell? ⟨w.heap.size,2,none⟩=some (.int .i64 k):=by simp[World.cell?,e0]
 have c3:w1.cell? ⟨w.heap.size,3,none⟩=some (.int .i64 n):=by simp[World.cell?,e0]
 have c4:w1.cell? ⟨w.heap.size,4,none⟩=some (.float .f64 f):=by simp[World.cell?,e0]
 have c5:w1.cell? ⟨w.heap.size,5,none⟩=some (.string s):=by simp[World.cell?,e0]
 have c6:w1.cell? ⟨w.heap.size,6,none⟩=some (.slice A m c):=by simp[World.cell?,e0]
 have c7:w1.cell? ⟨w.heap.size,7,none⟩=some (.int .i64 t.n):=by simp[World.cell?,e0]
 have c8:w1.cell? ⟨w.heap.size,8,none⟩=some (.bool t.fl):=by simp[World.cell?,e0]
 have c9:w1.cell? ⟨w.heap.size,9,none⟩=some (.int .u64 (t.at':Nat)):=by simp[World.cell?,e0]
 clear e0
 go_upto_region 4 with (at_builtin;rw[<-hW2.out];refine Dq _ rfl _ _ 44 39 rfl i0 _ 10 112 Tryz.underlying44 HSZ.out hi0 hz0 hz1 hz2 rfl O1 w.heap.size _ _ i 1 (xs.take (i*10)) (DA t k n f s A m c).toList rfl rfl HO3.out HI3.out (by simp only[maxLen];omega) O0 (HBW.out _ HB2.out).size ?_;intro v2 w2 hown3 hgrow3 hat3)
 have HB3:Hid (Below (w.heap.size+1) W0 w2):=U (Dg HB2.out hgrow3 HV1.out hv2.out)
 have HV2:Hid (∀r,v2.ownBlock=some r->w.heap.size+1<=r):=U fun r hr=>by
  exact M163
 have hv3:Hid (w.heap.size+1<=w2.heap.size):=U (by have:=HB3.out.size;have:=HS0.out;omega)
 have HO3':Hid (w2.ownsRow w.heap.size 39 10 v2 (i+1) (xs.take (i*10)++(DA t k n f s A m c).toList)):=U hown3
 clear hown3 hgrow3 hat3 c0 c1 c2 c3 c4 c5 c6 c7 c8 c9
 exact Y261):p:=h
theorem Sz (N:Nat)(xs:List Value)(i:Nat)(hi:i<N)(t:TK)(k n:Int)(f:Nat)(s:ByteArray)(A:Option Addr)(m c:Nat)(dn:Bool)(ut:Value)(w:World)(h:CIn w ut N 10 xs)(hcap:N<=1200000000000) :
  Calls Tryz.prog 114 #[ut,.int .i64 (i:Nat),.agg (DA t k n f s A m c),.bool dn] w fun r w'=>∃u',r= .returned u'/\w'.ownsRow w.heap.size 39 10 u' (i+((if dn then 0 else 1)+(N-(i+1)))) (xs.take (i*10)++((if dn then [] else (DA t k n f s A m c).toList)++xs.drop ((i+1)*10)))/\Below w.heap.size w w':=by
 obtain⟨hlen,h1,A1,cp,rfl,hle,hcp,hrd⟩:=h
 obtain⟨b,off,rfl,hblt,h3⟩:=hrd O0
 obtain⟨i0,hi0,hz0,hz1,hz2⟩:=info_parts Tryz.infoRt
 obtain⟨W0,hW0⟩:=Rm (w.alloc (.cells (DA t k n f s A m c) 39))
 obtain⟨W1,hW1⟩:=Rm (W0.alloc (.cells #[] 39))
 have hb0:Below w.heap.size w W0:=by rw[hW0];exact Rl
 have hb1:Below w.heap.size w W1:=by rw[hW1];exact hb0.alloc hb0.size _
 have hs0:W0.heap.size=w.heap.size+1:=by rw[hW0];simp
 have hs1:W1.heap.size=w.heap.size+2:=by rw[hW1];simp[hs0]
 have hown1:W1.ownsRow w.heap.size 39 10 (.slice (some ⟨W0.heap.size,0,none⟩) 0 0) 0 []:=by
  rw[hW1];exact World.ownsRow_lit W0 #[] 0 hb0.size (Nat.zero_le _) O3
 have HTB:Hid (∀W,Below (w.heap.size+1) W0 W->W.heap[w.heap.size]?=some (.cells (DA t k n f s A m c) 39 (0,0))):=U fun W hW=>by
  rw[hW.block _ O0,hW0];exact heap_alloc_new ..
 have HC:Hid (∀W,Below w.heap.size w W->∀p x,xs[p]?=some x->W.cell? ⟨b,off+p,none⟩=some x):=U fun W hW p x hx=>(hW.cell (p:=⟨b,off+p,none⟩) hblt).trans (h3 p x hx)
 have HT1:Hid (∀W,Below w.heap.size w W->CIn W (.slice (some ⟨b,off,none⟩) i cp) i 10 (xs.take (i*10))):=U fun W hW=>CIn.take hlen h1 hle hcp (Nat.lt_of_lt_of_le hblt hW.size) (HC.out W hW) O0
 have HT2:Hid (∀W,Below w.heap.size w W->CIn W (.slice (some ⟨b,off+(i+1)*10,none⟩) (N-(i+1)) (cp-(i+1))) (N-(i+1)) 10 (xs.drop ((i+1)*10))):=U fun W hW=>CIn.drop hlen h1 hle hcp (Nat.lt_of_lt_of_le hblt hW.size) (HC.out W hW) O0
 have HSZ:=U (Od hi0 hz1)
 have hx1:xs.take (i*10)=xs.take (i*10):=rfl
 simp only[maxLen] at hcp
 have HB0:=U hb0;have HB1:=U hb1;have HO1:=U hown1
 have HS0:=U hs0;have HS1:=U hs1;have HL:=U hlen
 have HB01:Hid (Below (w.heap.size+1) W0 W1):=U (by rw[hW1];exact(Below.refl _ _).alloc O0 _)
 clear hrd h1 hlen h3 hown1 hb0 hb1 hs0 hs1 hx1
 unfold DA at hW0 HTB ⊢
 replace hW0:=U hW0;replace hW1:=U hW1
 go_enter Tryz.func114,Tryz.ntmps114
 go_upto_region 1 with fail
 rw[<-hW0.out]
 go_upto_region 2 with (at_builtin;rw[<-hW1.out];refine Dq _ rfl _ _ 44 39 rfl i0 _ 10 112 Tryz.underlying44 HSZ.out hi0 hz0 hz1 hz2 rfl O1 w.heap.size _ _ 0 i [] (xs.take (i*10)) rfl rfl HO1.out (HT1.out _ HB1.out) (by simp only[maxLen];omega) O0 HB1.out.size ?_;intro v1 w1 hown2 hgrow2 hat2)
 have hb1:Below (w.heap.size+1) W0 w1:=Dg HB01.out hgrow2 (fun r hr=>by have e:W0.heap.size=r:=Option.some.inj hr;have:=HS0.out;omega) (by have:=HS1.out;omega)
 have HV1:Hid (∀r,v1.ownBlock=some r->w.heap.size+1<=r):=U fun r hr=>by
  have:=HS0.out;have:=HS1.out
  rcases hat2 with e|e
  ·have e2:W0.heap.size=r:=Option.some.inj (e.symm.trans hr);omega
  ·have e2:W1.heap.size=r:=Option.some.inj (e.symm.trans hr);omega
 have HBW:Hid (∀W,Below (w.heap.size+1) W0 W->Below w.heap.size w W):=U fun W hW=>HB0.out.trans (hW.mono (Nat.le_succ _))
 rw[Nat.zero_add,List.nil_append] at hown2
 have HO2:=U hown2;have HB1':=U hb1
 clear hown2 hgrow2 hat2 hb1
 have hv1:Hid (w.heap.size+1<=w1.heap.size):=U (by have:=HB1'.out.size;have:=HS0.out;omega)
 have HT3:Hid (cp=i+1->∀W,Below w.heap.size w W->CIn W (.slice (some ⟨b,off,none⟩) (N-(i+1)) 0) (N-(i+1)) 10 (xs.drop ((i+1)*10))):=U fun e W hW=>by
  have:=HL.out
  rw[List.drop_of_length_le O0,show N-(i+1)=0 by omega]
  exact M187
 by_cases hcpi:cp=i+1
 ·have HT4 := U (HT3.out hcpi)
  cases dn with
  | true=>
   go_wp2_with (at_builtin;refine Dq _ rfl _ _ 44 39 rfl i0 _ 10 112 Tryz.underlying44 HSZ.out hi0 hz0 hz1 hz2 rfl O1 w.heap.size _ _ i (N-(i+1)) (xs.take (i*10)) (xs.drop ((i+1)*10)) rfl rfl HO2.out (HT4.out _ (HBW.out _ HB1'.out)) (by simp only[maxLen];omega) O0 (HBW.out _ HB1'.out).size ?_;intro v3 w3 hown4 hgrow4 hat4)
   exact M130
  | false=>
   open Q262 in exact M261
 ·cases dn with
  | true=>
   go_wp2_with (at_builtin;refine Dq _ rfl _ _ 44 39 rfl i0 _ 10 112 Tryz.underlying44 HSZ.out hi0 hz0 hz1 hz2 rfl O1 w.heap.size _ _ i (N-(i+1)) (xs.take (i*10)) (xs.drop ((i+1)*10)) rfl rfl HO2.out (HT2.out _ (HBW.out _ HB1'.out)) (by simp only[maxLen];omega) O0 (HBW.out _ HB1'.out).size ?_;intro v3 w3 hown4 hgrow4 hat4)
   exact M130
  | false=>
   open Q263 in exact M261
variable {X X' Y Y' : Nat -> Prop} {u v w w' V V' : World}
def RHsC (V:World)(xs:List Value)(fl:List HM):Prop:=xs.length=fl.length*7/\∀i (h:i<fl.length),fl[i].flow.size<=maxLen/\∃ub uk ut um,RH V fl[i] ub uk ut um/\∀q,q<7->xs[i*7+q]?=(rhC fl[i].flow ub fl[i].s.closed fl[i].s.next uk ut um)[q]?
theorem RHsC.leads {xs:List Value}{fl:List HM}(h:RHsC v xs fl)(hl:Leads v w):RHsC w xs fl:=⟨h.1,fun i hi=>by
 obtain⟨h0,ub,uk,ut,um,h1,h2⟩:=h.2 i hi
 exact⟨h0,ub,uk,ut,um,h1.leads hl,h2⟩⟩
theorem RHsC.nil (V:World):RHsC V [] []:=⟨rfl,fun i h=>absurd h O3⟩
theorem RHsC.append {xs ys:List Value}{ts us:List HM}(h:RHsC V xs ts)(k:RHsC V ys us):RHsC V (xs++ys) (ts++us):=by
 have h1:=h.1;have k1:=k.1
 refine⟨by simp only[List.length_append];omega,fun i hi=> ?_⟩
 rw[List.length_append] at hi
 by_cases hlt:i<ts.length
 ·rw [List.getElem_append_left hlt]
  obtain⟨q0,ub,uk,ut,um,q1,q2⟩:=h.2 i hlt
  exact⟨q0,ub,uk,ut,um,q1,fun q hq=>by rw[List.getElem?_append_left O0];exact q2 q hq⟩
 ·rw [List.getElem_append_right O0]
  obtain⟨q0,ub,uk,ut,um,q1,q2⟩:=k.2 (i-ts.length) O0
  exact⟨q0,ub,uk,ut,um,q1,fun q hq=>by rw[List.getElem?_append_right O0, <-q2 q hq];congr 1;omega⟩
theorem RHsC.one {h:HM}{ub uk ut um:Value}(hs:h.flow.size<=maxLen)(hr:RH V h ub uk ut um):RHsC V (rhC h.flow ub h.s.closed h.s.next uk ut um).toList [h]:=⟨rfl,fun i hi=>by
 obtain rfl:i=0:=by simpa using hi
 exact⟨hs,ub,uk,ut,um,hr,fun q hq=>by rw[Nat.zero_mul,Nat.zero_add,Array.getElem?_toList];rfl⟩⟩
def RHs (V:World)(u:Value)(fl:List HM):Prop:=∃xs,CIn V u fl.length 7 xs/\RHsC V xs fl
theorem RHs.leads {u:Value}{fl:List HM}(h:RHs v u fl)(hl:Leads v w):RHs w u fl:=h.elim fun xs k=>⟨xs,k.1.leads hl,k.2.leads hl⟩
theorem RBt.leads {u:Value}{bl:List BT}(h:RBt v u bl)(hl:Leads v w):RBt w u bl:=h.elim fun xs k=>⟨xs,k.1.leads hl,k.2.leads hl⟩
structure RIx (V : World) (x : XM) (uA uF : Value) : Prop where
 all:RBt V uA x.all
 flows:RHs V uF x.flows
theorem RIx.leads {x:XM}{uA uF:Value}(h:RIx v x uA uF)(hl:Leads v w):RIx w x uA uF:=⟨h.all.leads hl,h.flows.leads hl⟩
theorem RIx.later {x:XM}{uA uF:Value}(h:RIx w x uA uF)(hb:Below w.heap.size w w'):RIx w' x uA uF:=h.leads (Leads.of_below hb)
theorem rix_new (w:World):RIx w XM.new (.slice none 0 0) (.slice none 0 0):=⟨⟨[],CIn.nil w 3,BtC.nil w⟩,⟨[],CIn.nil w 7,RHsC.nil w⟩⟩
theorem RIx.slices {x:XM}{uA uF:Value}(h:RIx w x uA uF):(∃A c,uA= .slice A x.all.length c/\x.all.length<=c/\c<=maxLen)/\∃A c,uF= .slice A x.flows.length c/\x.flows.length<=c/\c<=maxLen:=by
 obtain⟨xs,⟨-,-,A,c,e,h1,h2,-⟩,-⟩:=h.all
 obtain⟨ys,⟨-,-,A',c',e',h1',h2',-⟩,-⟩:=h.flows
 exact⟨⟨A,c,e,h1,h2⟩,A',c',e',h1',h2'⟩
def IBox (w:World)(g:Nat)(uA uF:Value):Prop:=w.heap[g]?=some (.cells #[uA,uF] 27 (0,0))
theorem IBox.new (w:World)(uA uF:Value):IBox (w.alloc (.cells #[uA,uF] 27)) w.heap.size uA uF:=heap_alloc_new w _
theorem IBox.later {g B:Nat}{uA uF:Value}(h:IBox w g uA uF)(hb:Below B w w')(hg:g<B):IBox w' g uA uF:=(hb.block g hg).trans h
theorem IBox.lt {g:Nat}{uA uF:Value}(h:IBox w g uA uF):g<w.heap.size:=(Array.getElem?_eq_some_iff.1 h).1
theorem IBox.cells {g:Nat}{uA uF:Value}(h:IBox w g uA uF):w.cell? ⟨g,0,none⟩=some uA/\w.cell? ⟨g,1,none⟩=some uF/\∀i,w.frozen? ⟨g,i,none⟩=false:=by
 unfold IBox at h;simp[World.cell?,World.frozen?,h]
def OS (l : List HM) (f : ByteArray) : Int := match Dr l f with
 | some i=>(i:Nat)
 | none=> -1
theorem NI {l:List HM}{f:ByteArray}{j:Nat}(hj:j<l.length)(h:l[j].flow=f)(hno:∀q (hq:q<l.length),q<j->l[q].flow≠f):Dr l f=some j/\OS l f=j:=by
 have e:Dr l f=some j:=by
  unfold Dr
  rw[List.findIdx?_eq_some_iff_getElem]
  exact⟨hj,by simp[h],fun q hq=>by simpa using hno q O0 hq⟩
 exact⟨e,by unfold OS;rw[e]⟩
theorem Kl {l:List HM}{f:ByteArray}(hno:∀q (hq:q<l.length),l[q].flow≠f):Dr l f=none/\OS l f= -1:=by
 have e:Dr l f=none:=by
  unfold Dr
  rw[List.findIdx?_eq_none_iff]
  intro g hg
  obtain⟨q,hq,rfl⟩:=List.getElem_of_mem hg
  simpa using hno q hq
 exact⟨e,by unfold OS;rw[e]⟩
theorem XI {a b:ByteArray}(h:a≠b):(a.toList==b.toList)=false:=by
 rw[beq_eq_false_iff_ne];intro q;exact h (ByteArray.ext (Array.ext' (by rw[Vt.toList_data,Vt.toList_data] at q;exact q)))
theorem M189 (h:p:=by
 go_wp2_with fail
 go_ret
 exact⟨by rw[HR.out];rfl,HB0.out.trans (HB.out.mono HB0.out.size)⟩):p:=h
theorem VK (x:XM)(uA uF:Value)(f:ByteArray)(w:World)(h:RIx w x uA uF) :
  Calls Tryz.prog 31 #[.agg #[uA,uF],.string f] w fun r w'=>r= .returned (.int .i64 (OS x.flows f))/\Below w.heap.size w w':=by
 obtain⟨⟨A1,c1,rfl,-,-⟩,-⟩:=h.slices
 obtain⟨xs,⟨hlen,h1,A,cap,rfl,hle,hcap,hrd⟩,hc⟩:=h.flows
 simp only[maxLen] at hcap
 obtain⟨W0,hW0⟩:=Rm (w.alloc (.cells #[.slice A1 x.all.length c1,.slice A x.flows.length cap] 27))
 have hx0:IBox W0 w.heap.size (.slice A1 x.all.length c1) (.slice A x.flows.length cap):=by rw[hW0];exact IBox.new ..
 have hb0:Below w.heap.size w W0:=by rw[hW0];exact Rl
 have HX:Hid (∀W,Below W0.heap.size W0 W->IBox W w.heap.size (.slice A1 x.all.length c1) (.slice A x.flows.length cap)):=U fun W hW=>hx0.later hW hx0.lt
 have HB0:=U hb0;have HC:=U hc;have HRD:=U hrd
 obtain⟨m,hm⟩:=Rm (x.flows.length)
 obtain⟨fl,hfl⟩:=Rm (x.flows)
 rw[<-hfl] at hm HC ⊢
 rw[<-hfl] at HRD hlen hle HX hW0 hx0
 rw[<-hm] at hle HX hW0 hx0 HRD ⊢
 rw[<-hfl] at *
 have HM:=U hm
 clear h h1 hb0 hc hrd hm hlen hx0 hfl
 replace hW0:=U hW0
 go_enter Tryz.func31,Tryz.ntmps31
 go_upto_region 1 with fail
 rw[<-hW0.out]
 go_wp2_with fail
 go_loopw [5] (fun i wr=>∃j:Nat,j<=m/\i= .int .i64 j/\(∀q (hq:q<fl.length),q<j->fl[q].flow≠f)/\Below W0.heap.size W0 wr) (fun i _=>m-(intOf i).toNat)
 case atStart=>exact⟨0,O0,rfl,fun q _ h=>absurd h O0,Below.refl _ _⟩
 case round=>
  obtain⟨j,hj,rfl,hno,hb⟩:=hrel
  have HNO:=U hno;have HB:=U hb
  clear hno hb
  obtain⟨x0,x1,-⟩:=(HX.out wr HB.out).cells
  by_cases hlt:j<m
  ·have hjl : j < fl.length := by have := HM.out; omega
   obtain⟨b,off,rfl,hbl,hr⟩:=HRD.out O0
   obtain⟨-,ub,uk,ut,um,-,hq⟩:=HC.out.2 j hjl
   have d0:=((HB0.out.trans (HB.out.mono HB0.out.size)).cell (p:=⟨b,off+(j*7+0),none⟩) hbl).trans (hr (j*7+0) (.string fl[j].flow) (hq 0 O0))
   rw[Nat.add_zero] at d0
   have HJ:=U hjl
   clear hq hr hbl
   by_cases he:fl[j].flow=f
   ·have k1 : (fl[j].flow.toList == f.toList) = true := by rw [he]; exact beq_self_eq_true _
    have HR:=U (NI hjl he HNO.out).2
    generalize fl[j].flow=ff at *
    have HE:=U he
    clear he hjl
    exact M189
   ·have k1 : (fl[j].flow.toList == f.toList) = false := XI he
    have HE:=U he
    clear he
    generalize hff:fl[j].flow=ff at *
    have HFFE:=U hff
    clear hff hjl
    go_wp2_with fail
    go_roundw
    case rel => exact ⟨j + 1, O0, by go_num, fun q hq hqj => by
     by_cases e:q=j
     ·subst e;exact fun k=>HE.out (HFFE.out.symm.trans k)
     ·exact HNO.out q hq O0,HB.out⟩
    case measure=>simp[intOf];omega
  ·have hjm : j = m := O0
   subst hjm
   have HR:=U (Kl (l:=fl) (f:=f) fun q hq=>HNO.out q hq (by have:=HM.out;omega)).2
   exact M189
theorem JV (x:XM)(uA uF:Value)(w:World)(h:RIx w x uA uF) :
  Calls Tryz.prog 13 #[.agg #[uA,uF]] w fun r w'=>r= .returned (.int .u64 (x.clock:Nat))/\Below w.heap.size w w':=by
 obtain⟨-,A1,c1,rfl,-,-⟩:=h.slices
 obtain⟨xs,⟨hlen,h1,A,cap,rfl,hle,hcap,hrd⟩,hc⟩:=h.all
 simp only[maxLen] at hcap
 obtain⟨W0,hW0⟩:=Rm (w.alloc (.cells #[.slice A x.all.length cap,.slice A1 x.flows.length c1] 27))
 have hx0:IBox W0 w.heap.size (.slice A x.all.length cap) (.slice A1 x.flows.length c1):=by rw[hW0];exact IBox.new ..
 have hb0:Below w.heap.size w W0:=by rw[hW0];exact Rl
 have HX:Hid (∀W,Below W0.heap.size W0 W->IBox W w.heap.size (.slice A x.all.length cap) (.slice A1 x.flows.length c1)):=U fun W hW=>hx0.later hW hx0.lt
 have HB0:=U hb0;have HC:=U hc;have HRD:=U hrd
 obtain⟨m,hm⟩:=Rm (x.all.length)
 rw[<-hm] at hle HX hW0 hx0 HRD ⊢
 have HM:=U hm
 clear h h1 hb0 hc hrd hm hlen hx0
 replace hW0:=U hW0
 have HCLK:Hid (x.clock=Fw x.all):=U rfl
 rw[HCLK.out]
 generalize x.all=al at *
 clear HCLK
 go_enter Tryz.func13,Tryz.ntmps13
 go_upto_region 1 with fail
 rw[<-hW0.out]
 go_wp2_with fail
 go_loopw [3,4] (fun t i wr=>∃j:Nat,j<=m/\i= .int .i64 j/\t= .int .u64 (Fw (al.take j):Nat)/\Below W0.heap.size W0 wr) (fun _ i _=>m-(intOf i).toNat)
 case atStart=>exact⟨0,O0,rfl,rfl,Below.refl _ _⟩
 case round=>
  obtain⟨j,hj,rfl,rfl,hb⟩:=hrel
  have HB:=U hb
  clear hb
  obtain⟨x0,x1,-⟩:=(HX.out wr HB.out).cells
  by_cases hlt:j<m
  ·have hjl : j < al.length := by have := HM.out; omega
   obtain⟨b,off,rfl,hbl,hr⟩:=HRD.out O0
   obtain⟨A2,c2,-,hat,-,-,hq1,-⟩:=HC.out.2 j hjl
   have d1:=((HB0.out.trans (HB.out.mono HB0.out.size)).cell (p:=⟨b,off+(j*3+1),none⟩) hbl).trans (hr (j*3+1) (.int .u64 (al[j].at':Nat)) hq1)
   rw[<-Nat.add_assoc] at d1
   have HT:=U (Jj al j hjl)
   clear hq1 hr hbl
   generalize al[j].at'=ta at *
   generalize hck:Fw (al.take j)=ck at *
   have HCK:=U hck
   clear hck
   by_cases hmx:ta<=ck
   ·have k1 : max (ck : Int) (ta : Int) = (ck : Int) := O0
    have k2:decide ((ck:Int)<(ta:Int))=false:=decide_eq_false O0
    have k3:decide ((ta:Int)<=(ck:Int))=true:=decide_eq_true O0
    have HMX:=U hmx
    clear hmx
    go_wp2_with fail
    go_roundw
    case rel=>exact⟨j+1,O0,by go_num,by rw[HT.out,Nat.max_eq_left HMX.out],HB.out⟩
    case measure=>simp[intOf];omega
   ·have k1 : max (ck : Int) (ta : Int) = (ta : Int) := O0
    have k2:decide ((ck:Int)<(ta:Int))=true:=decide_eq_true O0
    have k3:decide ((ta:Int)<=(ck:Int))=false:=decide_eq_false O0
    have HMX:=U hmx
    clear hmx
    go_wp2_with fail
    go_roundw
    case rel=>exact⟨j+1,O0,by go_num,by rw[HT.out,Nat.max_eq_right (by have:=HMX.out;omega)],HB.out⟩
    case measure=>simp[intOf];omega
  ·have hjm : j = m := O0
   subst hjm
   have HTT:Hid (al.take j=al):=U (by rw[HM.out];exact List.take_length)
   go_wp2_with fail
   go_ret
   exact⟨by rw[HTT.out];rfl,HB0.out.trans (HB.out.mono HB0.out.size)⟩
open Ev (EBox take_drop tk ap rd1 rd2 Dh)
open Cn (BB Gs)
variable {X X' Y Y' : Nat -> Prop} {u v w w' V V' : World} {hb bt bm bk n cap : Nat} {A : Option Addr} {h : HM}
structure RS (w : World) (s : ST) (uk ut um : Value) : Prop where
 keys:RSt w uk s.keys
 tasks:RTk w ut s.tasks
 timers:RTm w um s.timers
theorem RS.leads {s:ST}{uk ut um:Value}(h:RS v s uk ut um)(hl:Leads v w):RS w s uk ut um:=
 ⟨h.keys.elim fun xs k=>⟨xs,k.1.leads hl,k.2⟩,h.tasks.elim fun xs k=>⟨xs,k.1.leads hl,k.2.leads hl⟩,h.timers.elim fun xs k=>⟨xs,k.1.leads hl,k.2⟩⟩
theorem RS.later {s:ST}{uk ut um:Value}(h:RS w s uk ut um)(hb:Below w.heap.size w w'):RS w' s uk ut um:=h.leads (Leads.of_below hb)
def PT (X:Nat->Prop)(w:World)(f:ByteArray)(ub:Value)(o:Option ST)(r:Ending)(w':World):Prop:=Below w.heap.size w w'/\∃cl nx uk ut um,(∃A n c,uk= .slice A n c)/\(∃A n c,ut= .slice A n c)/\(∃A n c,um= .slice A n c)/\r= .returned (.tuple #[.agg (rhC f ub cl nx uk ut um),.bool o.isSome])/\∀s',o=some s'->cl=s'.closed/\nx=s'.next/\RS (Ds X w') s' uk ut um
structure OIn (X : Nat -> Prop) (w : World) (s : ST) (uk ut um : Value) (b : BT) (A : Option Addr) (cap : Nat) : Prop where
 rs:RS (Ds X w) s uk ut um
 evs:EvsIn (Ds X w) A cap b.es
 xb:∀c,X c->c<w.heap.size
 fine:OQ s
 flow:b.flow.size<=maxLen
 at':b.at'<18446744073709551616
 n1:s.tasks.length<=1200000000000
 n2:s.timers.length<=1200000000000
 n3:s.keys.length<=1200000000000
 n4:s.next<=1200000000000
theorem Dt (X:Nat->Prop)(hb:Below w.heap.size w w'):Leads (Ds X w) (Ds X w'):=Dp hb.size fun b hlt hx=>⟨hx,hb.block b hlt⟩
theorem CIn.of_veil {base:Nat}{T:TypeId}{k n:Nat}{v:Value}{xs:List Value}(h:w.ownsRow base T k v n xs)(h1:∀x∈xs,x.oneCell'=true)(hX:∀c,X c->c<base):CIn (Ds X w) v n k xs:=by
 refine⟨h.1,h1,?_⟩
 rcases h.2 with ⟨rfl,h0⟩|⟨r,cp,cur,rfl,q2,q3,q4,q5,q6,q7⟩
 ·exact M200
 ·refine ⟨_, cp, rfl, q4, q5, fun _ => ⟨r, 0, rfl, by rw [DM]; exact (Array.getElem?_eq_some_iff.1 q3).1, fun p x hx => ?_⟩⟩
  have hlt:=(List.getElem?_eq_some_iff.1 hx).1
  rw[h.1] at hlt
  rw[<-q7,List.getElem?_take_of_lt hlt,Array.getElem?_toList] at hx
  have hv:=(FB (X:=X) (w:=w) (b:=r) (fun q=>by have:=hX r q;omega)).trans q3
  simp[World.cell?,hv,hx]
theorem UH {W : World} {base i lo hi' N : Nat} {ts : List TK} {xs : List Value} {t : TK} {k n : Int} {f : Nat} {s : ByteArray} {A : Option Addr} {m c : Nat} {dn : Bool} {u : Value} (hi : i < ts.length) (ht : TOk t) (hr : Rep (Ds X w) lo hi' t.v (Dn k n f s A m c)) (hh : hi' <= w.heap.size) (hbt : TkC (Ds X w) xs ts) (h1 : ∀ x ∈ xs, x.oneCell' = true) (hb : Below w.heap.size w W) (hN : N = i + ((if dn then 0 else 1) + (ts.length - (i + 1))))
  (ho:W.ownsRow base 39 10 u N (xs.take (i*10)++((if dn then [] else (DA t k n f s A m c).toList)++xs.drop ((i+1)*10)))) (hX:∀c,X c->c<base) :
  RTk (Ds X W) u (ts.take i++((if dn then [] else [t])++ts.drop (i+1))):=by
 have hl:=Dt X hb
 have e:(ts.take i++((if dn then [] else [t])++ts.drop (i+1))).length=i+((if dn then 0 else 1)+(ts.length-(i+1))):=by simp only[List.length_append,List.length_take,List.length_drop];cases dn<;>simp<;>omega
 refine⟨_,?_,((hbt.leads hl).take i O0).append (TkC.append (?_:TkC (Ds X W) (if dn then [] else (DA t k n f s A m c).toList) (if dn then [] else [t])) ((hbt.leads hl).drop (i+1) O0))⟩
 ·rw [e, <- hN]
  refine CIn.of_veil ho ?_ hX
  intro x hx
  rcases List.mem_append.1 hx with q|q
  ·exact h1 x (List.mem_of_mem_take q)
  ·rcases List.mem_append.1 q with q | q
   ·cases dn with
    | true=>cases q
    | false=>exact Us _ _ _ _ _ _ _ _ x q
   ·exact h1 x (List.mem_of_mem_drop q)
 ·cases dn with
  | true=>exact TkC.nil _
  | false=>exact TkC.one ht (Rep.leads hr hl) (by rw[DM];exact Nat.le_trans hh hb.size)
theorem M87 (h:p:=by
 unfold RX rhC at *;simp[World.setCell,Array.getElem?_modify,h]):p:=h
theorem RX.set5 {g:Nat}{f:ByteArray}{ub uk ut um v:Value}{cl:Int}{nx:Nat}(h:RX w g f ub cl nx uk ut um):RX (w.setCell ⟨g,5,none⟩ v) g f ub cl nx uk v um:=by
 exact M87
theorem RX.set3 {g:Nat}{f:ByteArray}{ub uk ut um:Value}{cl:Int}{nx:Nat}(h:RX w g f ub cl nx uk ut um):RX (w.setCell ⟨g,3,none⟩ (.int .u64 ((nx:Int)+1))) g f ub cl (nx+1) uk ut um:=by
 exact M87
theorem RX.set2 {g:Nat}{f:ByteArray}{ub uk ut um:Value}{cl c2:Int}{nx:Nat}(h:RX w g f ub cl nx uk ut um):RX (w.setCell ⟨g,2,none⟩ (.int .i64 c2)) g f ub c2 nx uk ut um:=by
 exact M87
theorem RX.set6 {g:Nat}{f:ByteArray}{ub uk ut um v:Value}{cl:Int}{nx:Nat}(h:RX w g f ub cl nx uk ut um):RX (w.setCell ⟨g,6,none⟩ v) g f ub cl nx uk ut v:=by
 exact M87
theorem RX.set4 {g:Nat}{f:ByteArray}{ub uk ut um v:Value}{cl:Int}{nx:Nat}(h:RX w g f ub cl nx uk ut um):RX (w.setCell ⟨g,4,none⟩ v) g f ub cl nx v ut um:=by
 exact M87
theorem RX.far {g b o:Nat}{f:ByteArray}{ub uk ut um v:Value}{cl:Int}{nx:Nat}(h:RX w g f ub cl nx uk ut um)(hb:b≠g):RX (w.setCell ⟨b,o,none⟩ v) g f ub cl nx uk ut um:=
 (RowKit.Below.heap_setCell _ _ _ _ (Ne.symm hb)).trans h
theorem GR {g b:Nat}(h:b≠g)(a1 a2 a3 a4 a5 a6 a7:Value):(((((((w.setCell ⟨g,0,none⟩ a1).setCell ⟨g,1,none⟩ a2).setCell ⟨g,2,none⟩ a3).setCell ⟨g,3,none⟩ a4).setCell ⟨g,4,none⟩ a5).setCell ⟨g,5,none⟩ a6).setCell ⟨g,6,none⟩ a7).heap[b]?=w.heap[b]?:=by
 repeat rw[RowKit.Below.heap_setCell _ _ _ _ h]
theorem CIn.grown {k m b cp:Nat}{xs:List Value}{row:Option Nat}(h:CIn w (.slice (some ⟨b,0,none⟩) m cp) m k xs)(hg:w.grownBy w' row)(hne:some b≠row):CIn w' (.slice (some ⟨b,0,none⟩) m cp) m k xs:=by
 obtain⟨h1,h2,A,c,h3,h4,h5,h6⟩:=h
 injection h3 with e1 e2 e3
 refine⟨h1,h2,A,c,by rw[<-e1, <-e3],h4,h5,fun hp=> ?_⟩
 obtain⟨b',off,q1,q2,q3⟩:=h6 hp
 rw[<-e1] at q1
 cases q1
 exact⟨b,0,e1.symm,Nat.lt_of_lt_of_le q2 hg.size,fun p x hx=>(World.cell?_of_block (a:=⟨b,0+p,none⟩) (hg.block b q2 hne)).trans (q3 p x hx)⟩
theorem CIn.lt {k b cp m:Nat}{xs:List Value}(h:CIn w (.slice (some ⟨b,0,none⟩) (m+1) cp) (m+1) k xs):b<w.heap.size:=by
 obtain⟨h1,h2,A,c,h3,h4,h5,h6⟩:=h
 injection h3 with e1 e2 e3
 obtain⟨b',off,q1,q2,q3⟩:=h6 (Nat.succ_pos _)
 rw[<-e1] at q1
 cases q1
 exact q2
theorem Fg {base n k:Nat}{T:TypeId}{u:Value}{xs:List Value}(h:w.ownsRow base T k u n xs)(hb:Below w.heap.size w w'):w'.ownsRow base T k u n xs:=Cn.GF h hb
theorem Tryz.infoStr : (Tryz.prog.info? 9).map (fun i=>(i.zero,i.size,i.bytes))=some (some (.string ⟨#[]⟩),1,16):=O2
theorem Tryz.infoRm : (Tryz.prog.info? 94).map (fun i=>(i.zero,i.size,i.bytes))=some (some (.agg #[.int .u64 0,.int .u64 0]),2,16):=O2
theorem DN {base n k:Nat}{T:TypeId}{u:Value}{xs:List Value}(h:w.ownsRow base T k u n xs):∃A c,u= .slice A n c/\∀r,rowOf A=some r->base<=r:=by
 rcases h.2 with ⟨rfl,h0⟩|⟨r,cp,cur,rfl,q2,q3⟩
 ·exact⟨none,0,by rw[h0],fun r h=>by cases h⟩
 ·exact⟨_,_,rfl,fun r' h=>by cases h;exact q2⟩
theorem OT (h:p:=by
 rw[show ((0:Nat):Int)=0 from rfl] at q3
 have qf0:=qf 0;have qf1:=qf 1;have qf2:=qf 2;have qf3:=qf 3;have qf4:=qf 4;have qf5:=qf 5;have qf6:=qf 6
 exact Y286):p:=h
theorem M432 (h:p:=by
 go_quiet (fail)
 generalize hw2:w1.drewN nq=w2 at *
 have HQ2:Hid (Below W1.heap.size W1 w2):=U (by rw[<-hw2];exact below_drewN HQ1.out nq)
 clear hw2
 clear x0 x1 x2 x3 x4 x5 x6 y0 y1 y2 e0 e1 e2 e3 e4 e5 e6 e7 e8 e9 e10
 obtain⟨x0,x1,x2,x3,x4,x5,x6,xf⟩:=(HX.out w2 HQ2.out).1.cells
 obtain⟨y0,y1,y2,-⟩:=(HX.out w2 HQ2.out).2.1.cells
 obtain⟨e0,e1,e2,e3,e4,e5,e6,e7,e8,e9,e10⟩:=EBox.cells (HX.out w2 HQ2.out).2.2.2
 dsimp only at e0 e1 e2 e3 e4 e5
 exact Y432):p:=h
theorem M556 (h:p:=by
 clear qf
 go_wp2_with fail
 refine bodyPost_ret (v:= .tuple #[.agg #[.string f,.slice Bu nu cu,.int .i64 s.closed,.int .u64 (s.next:Nat),.slice Ak nk ck,.slice (some ⟨tb,tf0,none⟩) L ct,.slice Am nm cm],.bool false]) (by simp[results,Tryz.results81,go_sem,q0,q1,q2,q3,q4,q5,q6]) rfl ?_
 exact Y556):p:=h
theorem Q557.Y556 (h:p:=by
 exact⟨Fk (HBW.out w2 HQ2.out) (Nat.le_succ_of_le (Nat.le_succ _)) _ _ _ _ _ _ _,s.closed,s.next,.slice Ak nk ck,.slice (some ⟨tb,tf0,none⟩) L ct,.slice Am nm cm,⟨_,_,_,rfl⟩,⟨_,_,_,rfl⟩,⟨_,_,_,rfl⟩,by rw[HN.out];rfl,fun s' hs=>by rw[HN.out] at hs;cases hs⟩):p:=h
theorem Q297.Y286 (h:p:=by
 open Q557 in exact M556):p:=h
theorem Q434.Y432 (h:p:=by
 obtain⟨q0,q1,q2,q3,q4,q5,q6,qf⟩:=(HX.out w2 HQ2.out).2.2.1.cells
 open Q297 in exact OT):p:=h
theorem M14 (h:p:=by
 open Q434 in exact M432):p:=h
theorem M523 (h:p:=by
 clear x0 x1 x2 x3 x4 x5 x6 y0 y1 y2 e0 e1 e2 e3 e4 e5 e6 e7 e8 e9 e10
 obtain⟨x0,x1,x2,x3,x4,x5,x6,xf⟩:=(HX.out W4 HB4.out).1.cells
 obtain⟨y0,y1,y2,-⟩:=(HX.out W4 HB4.out).2.1.cells
 obtain⟨e0,e1,e2,e3,e4,e5,e6,e7,e8,e9,e10⟩:=EBox.cells (HX.out W4 HB4.out).2.2.2
 dsimp only at e0 e1 e2 e3 e4 e5
 exact Y523):p:=h
theorem M625 (h:p:=by
 have hq6:RX w6 (w.heap.size+1+1) ⟨#[]⟩ (.slice none 0 0) 0 0 (.slice none 0 0) (.slice none 0 0) (.slice none 0 0):=by rw[hw6];exact(HX.out w5 HB5.out).2.2.1.far O0
 have HB6:Hid (Below w.heap.size w w6):=U (by rw[hw6];exact(HBW.out w5 HB5.out).setCell (p:=⟨w.heap.size,5,none⟩) (Nat.le_refl _) _)
 have HW6:=U hw6
 clear x0 x1 x2 x3 x4 x5 x6 xf5
 obtain⟨x0,x1,x2,x3,x4,x5,x6,xf⟩:=hx6.cells
 exact Y625):p:=h
theorem M174 (h:p:=by
 rw[hW7,GR h2,HW6.out]
 exact RowKit.Below.heap_setCell _ _ _ _ h1):p:=h
theorem M667 (h:p:=by
 rw[<-hW7]
 have hb7:Below w.heap.size w W7:=by rw[hW7];exact Fk (g:=w.heap.size+1+1) HB6.out (Nat.le_succ_of_le (Nat.le_succ _)) _ _ _ _ _ _ _
 have hm7:∀r,r≠w.heap.size->r≠w.heap.size+1+1->W7.heap[r]?=w5.heap[r]?:=fun r h1 h2=>by
  exact M174
 clear hW7 x0 x1 x2 x3 x4 x5 x6 q0 q1 q2 q3 q4 q5 q6 qf0 qf1 qf2 qf3 qf4 qf5 qf6
 exact Y667):p:=h
theorem M93 (h:p:=by
 refine⟨rfl,rfl,⟨(HRV.out.leads (Dt X hb7)).keys,?_,(HRV.out.leads (Dt X hb7)).timers⟩⟩
 dsimp only
 rw[<-hp,HLL.out]
 exact hr7):p:=h
theorem Q558.Y556 (h:p:=by
 exact⟨Fk (HBW.out w2 HQ2.out) O0 _ _ _ _ _ _ _,s.closed,s.next,.slice Ak nk ck,.slice (some ⟨tb,tf0,none⟩) L ct,.slice Am nm cm,⟨_,_,_,rfl⟩,⟨_,_,_,rfl⟩,⟨_,_,_,rfl⟩,by rw[HN.out];rfl,fun s' hs=>by rw[HN.out] at hs;cases hs⟩):p:=h
theorem Q298.Y286 (h:p:=by
 open Q558 in exact M556):p:=h
theorem Q435.Y432 (h:p:=by
 obtain⟨q0,q1,q2,q3,q4,q5,q6,qf⟩:=(HX.out w2 HQ2.out).2.2.1.cells
 open Q298 in exact OT):p:=h
theorem M28 (h:p:=by
 open Q435 in exact M432):p:=h
theorem M81 (h:p:=by
 refine bodyPost_ret (v:= .tuple #[.agg #[.string f,.slice Bu nu cu,.int .i64 s.closed,.int .u64 (s.next:Nat),.slice Ak nk ck,.slice Aq nt ct,.slice Am nm cm],.bool false]) (by simp[results,Tryz.results81,go_sem,q0,q1,q2,q3,q4,q5,q6]) rfl ?_
 exact⟨Fk (HBW.out w2 HQ2.out) O0 _ _ _ _ _ _ _,s.closed,s.next,.slice Ak nk ck,.slice Aq nt ct,.slice Am nm cm,⟨_,_,_,rfl⟩,⟨_,_,_,rfl⟩,⟨_,_,_,rfl⟩,by rw[HN.out];rfl,fun s' hs=>by rw[HN.out] at hs;cases hs⟩):p:=h
theorem Q296.Y286 (h:p:=by
 clear qf
 go_wp2_with fail
 exact M81):p:=h
theorem Q433.Y432 (h:p:=by
 obtain⟨q0,q1,q2,q3,q4,q5,q6,qf⟩:=(HX.out w2 HQ2.out).2.2.1.cells
 open Q296 in exact OT):p:=h
theorem M33 (h:p:=by
 clear hg HTI
 open Q433 in exact M432):p:=h
theorem M40 (h:p:=by
 rw[hW0]
 have e:=heap_alloc_new ((w.alloc (.cells (rhC f (.slice Bu nu cu) s.closed s.next (.slice Ak nk ck) (.slice Aq nt ct) (.slice Am nm cm)) 84)).alloc (.cells #[.string ff,.int .u64 (at':Nat),.slice (some ⟨eb,eo,none⟩) m cap] 64)) (.cells (rhC ⟨#[]⟩ (.slice none 0 0) 0 0 (.slice none 0 0) (.slice none 0 0) (.slice none 0 0)) 84)
 simp only[World.size_alloc] at e
 exact e):p:=h
theorem M48 (h:p:=by
 have o:∀c,c<w.heap.size+3->W.heap[c]?=W0.heap[c]?:=fun c hc=>(hW.block c O0).trans (by rw[hW1];exact heap_alloc_old _ _ O0)
 refine⟨(o _ O0).trans hx0,(o _ O0).trans hx1,(o _ O0).trans hx2,(hW.block _ O0).trans ?_⟩
 rw[hW1, <-hs0];exact heap_alloc_new ..):p:=h
theorem M56 (h:p:=by
 rw[hW0,heap_alloc_old _ _ O3]
 have e:=heap_alloc_new (w.alloc (.cells (rhC f (.slice Bu nu cu) s.closed s.next (.slice Ak nk ck) (.slice Aq nt ct) (.slice Am nm cm)) 84)) (.cells #[.string ff,.int .u64 (at':Nat),.slice (some ⟨eb,eo,none⟩) m cap] 64)
 exact M114):p:=h
theorem M72 (h:p:=by
 have g:∀q x,q<10->(DA ⟨tid,tname,tv,tn,tfl,tat⟩ tk tn' tf ts tA tm tc)[q]?=some x->W.cell? ⟨tb,tf0+i*10+q,none⟩=some x:=fun q x hq10 hx=>by
  have:=h39 (i*10+q) x (by rw[hq q hq10];exact hx)
  rw[Nat.add_assoc]
  exact((HBW.out W hW).cell (p:=⟨tb,tf0+(i*10+q),none⟩) htb).trans this
 exact⟨g 0 _ O0 rfl,g 1 _ O0 rfl,g 2 _ O0 rfl,g 3 _ O0 rfl,g 4 _ O0 rfl,g 5 _ O0 rfl,g 6 _ O0 rfl,g 7 _ O0 rfl,g 8 _ O0 rfl,g 9 _ O0 rfl⟩):p:=h
theorem M197 (h:p:=by
 rw[decide_eq_false q,beq_eq_false_iff_ne];omega):p:=h
theorem M96 (h:p:=by
 rw[hal]
 by_cases q:m=1
 ·subst q;rfl
 ·exact M197):p:=h
theorem M162 (h:p:=by
 have kwr:=IntWalk.i64_in (en-1) O0
 exact M14):p:=h
theorem KN (h:p:=by
 have HE:=U he
 obtain⟨W0,hW0⟩:=Rm (((w.alloc (.cells (rhC f (.slice Bu nu cu) s.closed s.next (.slice Ak nk ck) (.slice Aq nt ct) (.slice Am nm cm)) 84)).alloc (.cells #[.string ff,.int .u64 (at':Nat),.slice (some ⟨eb,eo,none⟩) m cap] 64)).alloc (.cells (rhC ⟨#[]⟩ (.slice none 0 0) 0 0 (.slice none 0 0) (.slice none 0 0) (.slice none 0 0)) 84))
 exact Y310):p:=h
theorem KQ (h:p:=by
 have hs0:W0.heap.size=w.heap.size+3:=by rw[hW0];simp
 have hs1:W1.heap.size=w.heap.size+4:=by rw[hW1];simp[hs0]
 have hb0:Below w.heap.size w W0:=by rw[hW0];exact(Rl.alloc O3 _).alloc (by simp;omega) _
 have hb1:Below w.heap.size w W1:=by rw[hW1];exact hb0.alloc O0 _
 have hx0:W0.heap[w.heap.size]?=some (.cells (rhC f (.slice Bu nu cu) s.closed s.next (.slice Ak nk ck) (.slice Aq nt ct) (.slice Am nm cm)) 84 (0,0)):=by rw[hW0];exact(heap_alloc_old _ _ (by simp;omega)).trans ((heap_alloc_old _ _ O3).trans (heap_alloc_new w _))
 have hx1:W0.heap[w.heap.size+1]?=some (.cells #[.string ff,.int .u64 (at':Nat),.slice (some ⟨eb,eo,none⟩) m cap] 64 (0,0)):=by
  exact M56
 have hx2:W0.heap[w.heap.size+2]?=some (.cells (rhC ⟨#[]⟩ (.slice none 0 0) 0 0 (.slice none 0 0) (.slice none 0 0) (.slice none 0 0)) 84 (0,0)):=by
  exact M40
 exact Y232):p:=h
theorem M769 (h:p:=by
 have HS1:=U hs1;have HB1:=U hb1
 obtain⟨y0,y1,y2,-⟩:=BB.cells (show BB W0 (w.heap.size+1) ff at' (some ⟨eb,eo,none⟩) m cap from hx1)
 obtain⟨x0,x1,x2,x3,x4,x5,x6,-⟩:=(HX.out W1 (Below.refl _ _)).1.cells
 exact Y769):p:=h
theorem Q770.Y769 (h:p:=by
 have e0:=(hb0.cell (p:=⟨eb,eo,none⟩) heb).trans z0
 have e1:=(hb0.cell (p:=⟨eb,eo+1,none⟩) heb).trans z1
 have e2:=(hb0.cell (p:=⟨eb,eo+2,none⟩) heb).trans z2
 have e3:=(hb0.cell (p:=⟨eb,eo+3,none⟩) heb).trans z3
 have e4:=(hb0.cell (p:=⟨eb,eo+4,none⟩) heb).trans z4
 have e5:=(hb0.cell (p:=⟨eb,eo+5,none⟩) heb).trans z5
 have e6:=(hb0.cell (p:=⟨eb,eo+6,none⟩) heb).trans z6
 have e7:=(hb0.cell (p:=⟨eb,eo+7,none⟩) heb).trans z7
 have e8:=(hb0.cell (p:=⟨eb,eo+8,none⟩) heb).trans z8
 have e9:=(hb0.cell (p:=⟨eb,eo+9,none⟩) heb).trans z9
 have e10:=(hb0.cell (p:=⟨eb,eo+10,none⟩) heb).trans z10
 have HREP:=U hrep;have HREPV:=U hrepV;have HHI:=U hhi
 unfold rhC at hW0 HTK ⊢
 unfold Db at hW1
 dsimp only at hW1
 rw[show ((0:Nat):Int)=0 from rfl] at hW0
 have hWs:=U hs0
 clear hs0 hs1 hb0 hb1 hx0 hx1 hx2 z0 z1 z2 z3 z4 z5 z6 z7 z8 z9 z10 hrep hrepV hhi hff he heb
 replace hW0:=U hW0
 replace hW1:=U hW1
 exact Y374):p:=h
theorem M374 (h:p:=by
 have HBW:Hid (∀W,Below W1.heap.size W1 W->Below w.heap.size w W):=U fun W hW=>hb1.trans (hW.mono hb1.size)
 have HTK:=U (Nd s.tasks id hid f (.slice Bu nu cu) (.slice Ak nk ck) (.slice Aq nt ct) (.slice Am nm cm) s.closed s.next W1 ((HRS.out.later hb1).tasks))
 open Q770 in exact M769):p:=h
theorem M560 (h:p:=by
 obtain⟨al,hal⟩:=Rm (decide (m=1))
 have hm1:((m:Int)==1)=al:=by
  exact M96
 rw[<-hal]
 have HAL:=U hal
 clear hal
 go_enter Tryz.func81,Tryz.ntmps81
 go_upto_region 1 with fail
 rw[<-hW0.out]
 go_upto_region 2 with fail
 rw[<-hW1.out]
 rw[show W0.heap.size=w.heap.size+3 from hWs.out]
 clear y0 y1 y2 e0 e1 e2 e3 e4 e5 e6 e7 e8 e9 e10
 obtain⟨-,y,-,ez⟩:=HX.out W1 (Below.refl _ _)
 obtain⟨e0,e1,e2,e3,e4,e5,e6,e7,e8,e9,e10⟩:=EBox.cells ez
 dsimp only at e0 e1 e2 e3 e4 e5
 exact Y560):p:=h
theorem Q562.Y560 (h:p:=by
 clear ez y
 exact Y226):p:=h
theorem Q376.Y374 (h:p:=by
 open Q562 in exact M560):p:=h
theorem M226 (h:p:=by
 open Q376 in exact M374):p:=h
theorem M428 (h:p:=by
 go_wp2_with (go_at_call 113;refine HTK.out.mono ?_;rintro x w1 ⟨⟨ti,rfl,hti⟩,hq1⟩;have HTI:=U (Uc HFI.out.tasks hti);have HQ1:=U hq1;clear hti hq1 x0 x1 x2 x3 x4 x5 x6 e0 e1 e2 e3 e4 e5 e6 e7 e8 e9 e10;obtain⟨x0,x1,x2,x3,x4,x5,x6,-⟩:=(HX.out w1 HQ1.out).1.cells;obtain⟨y0,y1,y2,-⟩:=(HX.out w1 HQ1.out).2.1.cells;obtain⟨e0,e1,e2,e3,e4,e5,e6,e7,e8,e9,e10⟩:=EBox.cells (HX.out w1 HQ1.out).2.2.2;dsimp only at e0 e1 e2 e3 e4 e5)
 exact Y428):p:=h
theorem M251 (h:p:=by
 obtain⟨xs,hcinV,htk⟩:=HRV.out.tasks
 have hcin:=hcinV.leads (Df X w)
 clear hcinV
 have HCI:=U hcin;have HTKC:=U htk
 obtain⟨hlen,-,A9,cap9,heq9,hle9,hcp9,hrd9⟩:=hcin
 obtain⟨rfl,rfl,rfl⟩:Aq=A9/\nt=s.tasks.length/\ct=cap9:=by injection heq9 with a1 a2 a3;exact⟨a1,a2,a3⟩
 obtain⟨tb,tf0,rfl,htb,h39⟩:=hrd9 O0
 simp only[maxLen] at hcp9
 obtain⟨lo2,hi2,tk,tn',tf,ts,tA,tm,tc,hto,htr,hth,hq⟩:=htk.2 i hi
 rw[DM] at hth
 obtain⟨t,htt⟩:=Rm (s.tasks[i])
 rw[<-htt] at hid' hg hto htr hq
 have HIDQ:=U hid'
 have HTT:=U htt
 clear htt
 obtain⟨tid,tname,tv,tn,tfl,tat⟩:=t
 dsimp only at hid' hto htr hq HIDQ
 have HTKO:=U hto
 obtain⟨-,tn0,tn1,ta1,-⟩:=hto
 dsimp only at tn0 tn1 ta1
 have HTC:Hid (∀W,Below W1.heap.size W1 W->W.cell? ⟨tb,tf0+i*10,none⟩=some (.int .u64 (tid:Nat))/\W.cell? ⟨tb,tf0+i*10+1,none⟩=some (.string tname)/\W.cell? ⟨tb,tf0+i*10+2,none⟩=some (.int .i64 tk)/\W.cell? ⟨tb,tf0+i*10+3,none⟩=some (.int .i64 tn')/\W.cell? ⟨tb,tf0+i*10+4,none⟩=some (.float .f64 tf)/\W.cell? ⟨tb,tf0+i*10+5,none⟩=some (.string ts)/\W.cell? ⟨tb,tf0+i*10+6,none⟩=some (.slice tA tm tc)/\W.cell? ⟨tb,tf0+i*10+7,none⟩=some (.int .i64 tn)/\W.cell? ⟨tb,tf0+i*10+8,none⟩=some (.bool tfl)/\W.cell? ⟨tb,tf0+i*10+9,none⟩=some (.int .u64 (tat:Nat))):=U fun W hW=>by
  exact M72
 have HTR:=U htr;have HTH:=U hth;have HG:=U hg;have HLEN:=U hlen
 clear hq h39 hrd9 htr hth hg hlen hid' heq9 htk htb HTI
 obtain⟨t0,t1,t2,t3,t4,t5,t6,t7,t8,t9⟩:=HTC.out w1 HQ1.out
 have hen0:=HE.out.n0;have hen1:=HE.out.n1
 dsimp only at hen0 hen1
 subst hi'
 have ki0:decide ((i:Int)<0)=false:=decide_eq_false O0
 obtain⟨L,hL⟩:=Rm (s.tasks.length)
 rw[<-hL] at hi hn1 hle9 x5 HX
 have HLL:=U hL
 clear hL
 exact Y251):p:=h
theorem Q668.Y667 (h:p:=by
 refine⟨hb7,s.closed,s.next,.slice Ak nk ck,.slice Ar (i+(1+(L-(i+1)))) cr,.slice Am nm cm,⟨_,_,_,rfl⟩,⟨_,_,_,rfl⟩,⟨_,_,_,rfl⟩,by rw[HN.out];rfl,fun s' hs=> ?_⟩
 rw[HN.out] at hs
 cases hs
 have hz4:=HB4.out.size
 have hS1:=HS1.out
 have ho7:=Dx (w':=W7) HO5.out (fun r hr=>hm7 r (by have:=HBR.out r hr;omega) (by have:=HBR.out r hr;omega))
 clear hz4 hS1
 rw[HLL.out] at ho7
 have hi':i<s.tasks.length:=by rw[<-HLL.out];exact hi
 exact Y255):p:=h
theorem Q295.Y286 (h:p:=by
 clear qf xf hx6 hq6
 rw[<-hw6]
 clear hw6
 go_wp2_with fail
 refine bodyPost_ret (v:= .tuple #[.agg #[.string f,.slice Bu nu cu,.int .i64 s.closed,.int .u64 (s.next:Nat),.slice Ak nk ck,.slice Ar (i+(1+(L-(i+1)))) cr,.slice Am nm cm],.bool true]) (by simp[results,Tryz.results81,go_sem,q0,q1,q2,q3,q4,q5,q6]) rfl ?_
 obtain⟨W7,hW7⟩:=Rm (((((((w6.setCell ⟨w.heap.size+1+1,0,none⟩ (.string f)).setCell ⟨w.heap.size+1+1,1,none⟩ (.slice Bu nu cu)).setCell ⟨w.heap.size+1+1,2,none⟩ (.int .i64 s.closed)).setCell ⟨w.heap.size+1+1,3,none⟩ (.int .u64 (s.next:Nat))).setCell ⟨w.heap.size+1+1,4,none⟩ (.slice Ak nk ck)).setCell ⟨w.heap.size+1+1,5,none⟩ (.slice Ar (i+(1+(L-(i+1)))) cr)).setCell ⟨w.heap.size+1+1,6,none⟩ (.slice Am nm cm))
 open Q668 in exact M667):p:=h
theorem Q626.Y625 (h:p:=by
 obtain⟨q0,q1,q2,q3,q4,q5,q6,qf⟩:=hq6.cells
 open Q295 in exact OT):p:=h
theorem Q525.Y523 (h:p:=by
 go_upto_region 35 with (go_at_call 114;refine HWI.out.mono ?_;rintro x w5 ⟨u',rfl,hown5,hb5⟩;have HB5:=U (HB4.out.trans (hb5.mono HB4.out.size));obtain⟨Ar,cr,rfl,hbr⟩:=DN hown5;have HO5:=U hown5;have HBR:=U hbr;clear hown5 hb5 hbr x0 x1 x2 x3 x4 x5 x6 y0 y1 y2 e0 e1 e2 e3 e4 e5 e6 e7 e8 e9 e10 c0 c1 c2 c3 c4 c5 c6 c7 c8 c9 cf;obtain⟨x0,x1,x2,x3,x4,x5,x6,xf⟩:=(HX.out w5 HB5.out).1.cells;have xf5:=xf 5;clear xf)
 obtain⟨w6,hw6⟩:=Rm (w5.setCell ⟨w.heap.size,5,none⟩ (.slice Ar (i+(1+(L-(i+1)))) cr))
 have hx6:RX w6 w.heap.size f (.slice Bu nu cu) s.closed s.next (.slice Ak nk ck) (.slice Ar (i+(1+(L-(i+1)))) cr) (.slice Am nm cm):=by rw[hw6];exact(HX.out w5 HB5.out).1.set5
 open Q626 in exact M625):p:=h
theorem M255 (h:p:=by
 replace hW4:=U hW4
 clear cf7 cf8 cf9
 unfold DA at HWI
 dsimp only at HWI
 open Q525 in exact M523):p:=h
theorem Q256.Y255 (h:p:=by
 have hr7:=UH (dn:=false) (t:=⟨tid,tname,tv,en,true,ea⟩) hi' (by obtain⟨o1,-,-,-,o5⟩:=HTKO.out;exact⟨o1,hen0,hen1,HE.out.f.a1,o5⟩) HTR.out HTH.out HTKC.out HCI.out.2.1 hb7 O3 ho7 (by intro c hc;have:=HXB.out c hc;have:=HB4.out.size;have:=HS1.out;omega)
 have hp:=YD HFI.out.tasks (i:=i) hi' ⟨tid,tname,tv,en,true,ea⟩ (by rw[<-HTT.out])
 exact M93):p:=h
theorem Q252.Y251 (h:p:=by
 cases tfl with
 | true=>
  have HN:Hid (Dc at' al ⟨2,id,en,ea,name,text,ev⟩ s=none):=U (by simp[Dc,HG.out, ])
  exact M28
 | false=>
  by_cases h2:tn+1=en
  rotate_left
  ·have HN : Hid (Dc at' al ⟨2, id, en, ea, name, text, ev⟩ s = none) := U (by simp [Dc, HG.out, h2])
   have k2:(tn==en-1)=false:=by simp;omega
   have k2':(tn != en-1)=true:=by simp;omega
   exact M162
  have k2:(tn==en-1)=true:=by simp;omega
  have k2':(tn != en-1)=false:=by simp;omega
  have H2:=U h2
  clear h2
  by_cases h3:tat<=at'
  rotate_left
  ·have HN : Hid (Dc at' al ⟨2, id, en, ea, name, text, ev⟩ s = none) := U (by simp [Dc, HG.out, H2.out, h3])
   have H3:=U h3
   have k3:decide ((tat:Int)<=(at':Int))=false:=decide_eq_false O0
   have k3':decide ((at':Int)<(tat:Int))=true:=decide_eq_true O0
   have h3n:at'<tat:=O0
   exact M162
  have k3:decide ((tat:Int)<=(at':Int))=true:=decide_eq_true O0
  have k3':decide ((at':Int)<(tat:Int))=false:=decide_eq_false O0
  by_cases h4:at'<=ea
  rotate_left
  ·have HN : Hid (Dc at' al ⟨2, id, en, ea, name, text, ev⟩ s = none) := U (by simp [Dc, HG.out, H2.out, h3, h4])
   have k4:decide ((at':Int)<=(ea:Int))=false:=decide_eq_false O0
   have k4':decide ((ea:Int)<(at':Int))=true:=decide_eq_true O0
   exact M162
  have k4:decide ((at':Int)<=(ea:Int))=true:=decide_eq_true O0
  have k4':decide ((ea:Int)<(at':Int))=false:=decide_eq_false O0
  cases al with
  | false=>
   have HN:Hid (Dc at' false ⟨2,id,en,ea,name,text,ev⟩ s=none):=U (by simp[Dc,HG.out,H2.out,h3,h4])
   exact M162
  | true=>
   have HN:Hid (Dc at' true ⟨2,id,en,ea,name,text,ev⟩ s=some {s with tasks:=FN s.tasks ⟨tid,tname,tv,en,true,ea⟩}):=U (by simp[Dc,HG.out,H2.out,h3,h4])
   have kwr:=IntWalk.i64_in (en-1) O0
   go_quiet (fail)
   generalize hw2:w1.drewN nq=w2 at *
   have HQ2:Hid (Below W1.heap.size W1 w2):=U (by rw[<-hw2];exact below_drewN HQ1.out nq)
   clear hw2 kwr
   clear x0 x1 x2 x3 x4 x5 x6 y0 y1 y2 e0 e1 e2 e3 e4 e5 e6 e7 e8 e9 e10
   clear t0 t1 t2 t3 t4 t5 t6 t7 t8 t9
   obtain⟨x0,x1,x2,x3,x4,x5,x6,xf⟩:=(HX.out w2 HQ2.out).1.cells
   obtain⟨y0,y1,y2,-⟩:=(HX.out w2 HQ2.out).2.1.cells
   obtain⟨e0,e1,e2,e3,e4,e5,e6,e7,e8,e9,e10⟩:=EBox.cells (HX.out w2 HQ2.out).2.2.2
   dsimp only at e0 e1 e2 e3 e4 e5
   obtain⟨t0,t1,t2,t3,t4,t5,t6,t7,t8,t9⟩:=HTC.out w2 HQ2.out
   obtain⟨W3,hW3⟩:=Rm (w2.alloc (.cells #[.int .u64 (tid:Nat),.string tname,.int .i64 tk,.int .i64 tn',.float .f64 tf,.string ts,.slice tA tm tc,.int .i64 tn,.bool false,.int .u64 (tat:Nat)] 39))
   have hb3:Below W1.heap.size W1 W3:=by rw[hW3];exact HQ2.out.alloc HQ2.out.size _
   have hx3:W3.heap[w2.heap.size]?=some (.cells #[.int .u64 (tid:Nat),.string tname,.int .i64 tk,.int .i64 tn',.float .f64 tf,.string ts,.slice tA tm tc,.int .i64 tn,.bool false,.int .u64 (tat:Nat)] 39 (0,0)):=by rw[hW3];exact heap_alloc_new ..
   have hz3:W3.heap.size=w2.heap.size+1:=by rw[hW3];simp
   have hz2:=HQ2.out.size
   have hS1:=HS1.out
   obtain⟨c0,c1,c2,c3,c4,c5,c6,c7,c8,c9,cf⟩:=Fc hx3
   have HB3:=U hb3;have HX3:=U hx3;have HZ3:=U hz3;have HZ2:=U hz2
   have cf7:=cf 7;have cf8:=cf 8;have cf9:=cf 9
   clear hb3 hx3 hz3 hz2 hS1 cf
   replace hW3:=U hW3
   go_upto_region 9 with fail
   rw[<-hW3.out]
   clear t0 t1 t2 t3 t4 t5 t6 t7 t8 t9
   clear x0 x1 x2 x3 x4 x5 x6 y0 y1 y2 e0 e1 e2 e3 e4 e5 e6 e7 e8 e9 e10
   obtain⟨x0,x1,x2,x3,x4,x5,x6,xf⟩:=(HX.out W3 HB3.out).1.cells
   obtain⟨y0,y1,y2,-⟩:=(HX.out W3 HB3.out).2.1.cells
   obtain⟨e0,e1,e2,e3,e4,e5,e6,e7,e8,e9,e10⟩:=EBox.cells (HX.out W3 HB3.out).2.2.2
   dsimp only at e0 e1 e2 e3 e4 e5
   go_upto_region 12 with fail
   obtain⟨W4,hW4⟩:=Rm (((W3.setCell ⟨w2.heap.size,7,none⟩ (.int .i64 en)).setCell ⟨w2.heap.size,9,none⟩ (.int .u64 (ea:Nat))).setCell ⟨w2.heap.size,8,none⟩ (.bool true))
   rw[<-hW4]
   have HB4:Hid (Below W1.heap.size W1 W4):=U (by rw[hW4];exact((HB3.out.setCell (p:=⟨w2.heap.size,7,none⟩) HZ2.out _).setCell (p:=⟨w2.heap.size,9,none⟩) HZ2.out _).setCell (p:=⟨w2.heap.size,8,none⟩) HZ2.out _)
   have HX4:Hid (W4.heap[w2.heap.size]?=some (.cells (DA ⟨tid,tname,tv,en,true,ea⟩ tk tn' tf ts tA tm tc) 39 (0,0))):=U (by rw[hW4];simp[World.setCell,Array.getElem?_modify,HX3.out,DA])
   have HWI:=U (Sz L xs i hi ⟨tid,tname,tv,en,true,ea⟩ tk tn' tf ts tA tm tc false (.slice (some ⟨tb,tf0,none⟩) L ct) W4 (by rw[HLL.out];exact HCI.out.later (HBW.out _ HB4.out)) hn1)
   obtain⟨c0,c1,c2,c3,c4,c5,c6,c7,c8,c9,cf⟩:=Fc (show W4.heap[w2.heap.size]?=some (.cells #[.int .u64 (tid:Nat),.string tname,.int .i64 tk,.int .i64 tn',.float .f64 tf,.string ts,.slice tA tm tc,.int .i64 en,.bool true,.int .u64 (ea:Nat)] 39 (0,0)) from HX4.out)
   open Q256 in exact M255):p:=h
theorem Q429.Y428 (h:p:=by
 rcases HTI.out with ⟨hm1',hg⟩|⟨i,hi,hi',hid',hg⟩
 ·subst hm1'
  have HN:Hid (Dc at' al ⟨2,id,en,ea,name,text,ev⟩ s=none):=U (by simp[Dc,hg])
  exact M33
 ·open Q252 in exact M251):p:=h
theorem Q227.Y226 (h:p:=by
 open Q429 in exact M428):p:=h
theorem Q234.Y232 (h:p:=by
 have HX:Hid (∀W,Below W1.heap.size W1 W->RX W w.heap.size f (.slice Bu nu cu) s.closed s.next (.slice Ak nk ck) (.slice Aq nt ct) (.slice Am nm cm)/\BB W (w.heap.size+1) ff at' (some ⟨eb,eo,none⟩) m cap/\RX W (w.heap.size+1+1) ⟨#[]⟩ (.slice none 0 0) 0 0 (.slice none 0 0) (.slice none 0 0) (.slice none 0 0)/\EBox W (w.heap.size+3) (Db ⟨2,id,en,ea,name,text,ev⟩ vk vn vf vs A0 m0 c0)):=U fun W hW=>by
  exact M48
 open Q227 in exact M226):p:=h
theorem Q312.Y310 (h:p:=by
 obtain⟨W1,hW1⟩:=Rm (W0.alloc (.cells (Db ⟨2,id,en,ea,name,text,ev⟩ vk vn vf vs A0 m0 c0) 61))
 open Q234 in exact KQ):p:=h
theorem Q216.Y215 (h:p:=by
 obtain rfl:k=2:=hk
 open Q312 in exact KN):p:=h
theorem M632 (h:p:=by
 obtain⟨Ak,nk,ck,rfl⟩:∃A n c,uk= .slice A n c:=by obtain⟨xs,⟨-,-,A,c,e,-⟩,-⟩:=h.rs.keys;exact⟨_,_,_,e⟩
 obtain⟨Aq,nt,ct,rfl⟩:∃A n c,ut= .slice A n c:=by obtain⟨xs,⟨-,-,A,c,e,-⟩,-⟩:=h.rs.tasks;exact⟨_,_,_,e⟩
 obtain⟨Am,nm,cm,rfl⟩:∃A n c,um= .slice A n c:=by obtain⟨xs,⟨-,-,A,c,e,-⟩,-⟩:=h.rs.timers;exact⟨_,_,_,e⟩
 exact Y632):p:=h
theorem M527 (h:p:=by
 have hrepV:=hrep
 replace hrep:=Rep.leads hrep (Df X w)
 rw[DM] at heb hhi
 replace z0:=(Df X w).cell z0
 replace z1:=(Df X w).cell z1
 replace z2:=(Df X w).cell z2
 replace z3:=(Df X w).cell z3
 replace z4:=(Df X w).cell z4
 replace z5:=(Df X w).cell z5
 replace z6:=(Df X w).cell z6
 replace z7:=(Df X w).cell z7
 replace z8:=(Df X w).cell z8
 replace z9:=(Df X w).cell z9
 replace z10:=(Df X w).cell z10
 have hle:=h.evs.le
 have hcm:=h.evs.cap_le
 simp only[maxLen] at hcm
 exact Y527):p:=h
theorem M684 (h:p:=by
 have hbat:=h.at'
 rw[<-hat] at hbat
 rw[<-hee] at hff hrep hrepV z0 z1 z2 z3 z4 z5 he hk ⊢
 have HRV:=U h.rs;have HRS:=U (h.rs.leads (Df X w));have HXB:=U h.xb;have HFI:=U h.fine;have hn1:=h.n1;have hn2:=h.n2;have hn3:=h.n3;have hn4:=h.n4
 rw[<-hm] at hle ⊢
 rw[<-hf0, <-hat]
 exact Y684):p:=h
theorem Q685.Y684 (h:p:=by
 have hmp:0<m:=O0
 clear h hee hat hf0 hm hp
 obtain⟨k,id,en,ea,name,text,ev⟩:=e
 have hid:=he.f.i1
 dsimp only at hid hk hrep hrepV hff z0 z1 z2 z3 z4 z5 z6 z7 z8 z9 z10
 exact Y215):p:=h
theorem Q528.Y527 (h:p:=by
 rw[show eo+0*11=eo by omega] at z0 z1 z2 z3 z4 z5 z6 z7 z8 z9 z10
 obtain⟨m,hm⟩:=Rm (b.es.length)
 obtain⟨ff,hf0⟩:=Rm (b.flow)
 obtain⟨at',hat⟩:∃at',at'=b.at':=⟨_,rfl⟩
 obtain⟨e,hee⟩:=Rm (b.es[0]'hp)
 open Q685 in exact M684):p:=h
theorem Q633.Y632 (h:p:=by
 obtain⟨eb,eo,lo0,hi0,vk,vn,vf,vs,A0,m0,c0,rfl,heb,hff,hrep,hhi,z0,z1,z2,z3,z4,z5,z6,z7,z8,z9,z10⟩:=h.evs.get 0 hp
 open Q528 in exact M527):p:=h
theorem Rj (h:p:=by
 open Q633 in exact M632):p:=h
theorem out2_any (s:ST)(f:ByteArray)(Bu:Option Addr)(nu cu:Nat)(uk ut um:Value)(b:BT)(A:Option Addr)(cap:Nat)(w:World)(h:OIn X w s uk ut um b A cap)(hp:0<b.es.length)(he:FW (b.es[0]'hp))(hk:b.es[0].k=2) :
  Calls Tryz.prog 81 #[.agg (rhC f (.slice Bu nu cu) s.closed s.next uk ut um),.agg #[.string b.flow,.int .u64 (b.at':Nat),.slice A b.es.length cap]] w (PT X w f (.slice Bu nu cu) (Dc b.at' (decide (b.es.length=1)) (b.es[0]'hp) s)):=by
 open Q216 in exact Rj
theorem M645 (h:p:=by
 have HB4:Hid (Below W1.heap.size W1 W4):=U (by rw[hW4];exact(HB3.out.setCell (p:=⟨w2.heap.size,8,none⟩) HZ2.out _).setCell (p:=⟨w2.heap.size,9,none⟩) HZ2.out _)
 have HX4:Hid (W4.heap[w2.heap.size]?=some (.cells (DA ⟨tid,tname,tv,tn,false,ea⟩ tk tn' tf ts tA tm tc) 39 (0,0))):=U (by rw[hW4];simp[World.setCell,Array.getElem?_modify,HX3.out,DA])
 exact Y645):p:=h
theorem Q669.Y667 (h:p:=by
 refine⟨hb7,s.closed,s.next,.slice Ak nk ck,.slice Ar (i+(L-(i+1))) cr,.slice Am nm cm,⟨_,_,_,rfl⟩,⟨_,_,_,rfl⟩,⟨_,_,_,rfl⟩,by rw[HN.out];rfl,fun s' hs=> ?_⟩
 rw[HN.out] at hs
 cases hs
 have hz4:=HB4.out.size
 have hS1:=HS1.out
 have ho7:=Dx (w':=W7) HO5.out (fun r hr=>hm7 r (by have:=HBR.out r hr;omega) (by have:=HBR.out r hr;omega))
 clear hz4 hS1
 rw[HLL.out] at ho7
 have hi':i<s.tasks.length:=by rw[<-HLL.out];exact hi
 have hr7:=UH (dn:=true) (t:=⟨tid,tname,tv,tn,false,ea⟩) hi' (by obtain⟨o1,-,-,-,o5⟩:=HTKO.out;exact⟨o1,tn0,tn1,HE.out.f.a1,o5⟩) HTR.out HTH.out HTKC.out HCI.out.2.1 hb7 O3 ho7 (by intro c hc;have:=HXB.out c hc;have:=HB4.out.size;have:=HS1.out;omega)
 have hp:=del_with HFI.out.tasks (i:=i) hi'
 rw[<-HTT.out] at hp
 dsimp only at hp
 rw[HIDQ.out] at hp
 exact M93):p:=h
theorem Q294.Y286 (h:p:=by
 clear qf xf hx6 hq6
 rw[<-hw6]
 clear hw6
 go_wp2_with fail
 refine bodyPost_ret (v:= .tuple #[.agg #[.string f,.slice Bu nu cu,.int .i64 s.closed,.int .u64 (s.next:Nat),.slice Ak nk ck,.slice Ar (i+(L-(i+1))) cr,.slice Am nm cm],.bool true]) (by simp[results,Tryz.results81,go_sem,q0,q1,q2,q3,q4,q5,q6]) rfl ?_
 obtain⟨W7,hW7⟩:=Rm (((((((w6.setCell ⟨w.heap.size+1+1,0,none⟩ (.string f)).setCell ⟨w.heap.size+1+1,1,none⟩ (.slice Bu nu cu)).setCell ⟨w.heap.size+1+1,2,none⟩ (.int .i64 s.closed)).setCell ⟨w.heap.size+1+1,3,none⟩ (.int .u64 (s.next:Nat))).setCell ⟨w.heap.size+1+1,4,none⟩ (.slice Ak nk ck)).setCell ⟨w.heap.size+1+1,5,none⟩ (.slice Ar (i+(L-(i+1))) cr)).setCell ⟨w.heap.size+1+1,6,none⟩ (.slice Am nm cm))
 open Q669 in exact M667):p:=h
theorem Q627.Y625 (h:p:=by
 obtain⟨q0,q1,q2,q3,q4,q5,q6,qf⟩:=hq6.cells
 open Q294 in exact OT):p:=h
theorem Q524.Y523 (h:p:=by
 go_upto_region 35 with (go_at_call 114;refine HWI.out.mono ?_;rintro x w5 ⟨u',rfl,hown5,hb5⟩;have HB5:=U (HB4.out.trans (hb5.mono HB4.out.size));replace hown5:w5.ownsRow W4.heap.size 39 10 u' (i+(L-(i+1))) (xs.take (i*10)++([]++xs.drop ((i+1)*10))):=(by rw[<-Nat.zero_add (L-(i+1))];exact hown5);obtain⟨Ar,cr,rfl,hbr⟩:=DN hown5;have HO5:=U hown5;have HBR:=U hbr;clear hown5 hb5 hbr x0 x1 x2 x3 x4 x5 x6 y0 y1 y2 e0 e1 e2 e3 e4 e5 e6 e7 e8 e9 e10 c0 c1 c2 c3 c4 c5 c6 c7 c8 c9 cf;obtain⟨x0,x1,x2,x3,x4,x5,x6,xf⟩:=(HX.out w5 HB5.out).1.cells;have xf5:=xf 5;clear xf)
 obtain⟨w6,hw6⟩:=Rm (w5.setCell ⟨w.heap.size,5,none⟩ (.slice Ar (i+(L-(i+1))) cr))
 have hx6:RX w6 w.heap.size f (.slice Bu nu cu) s.closed s.next (.slice Ak nk ck) (.slice Ar (i+(L-(i+1))) cr) (.slice Am nm cm):=by rw[hw6];exact(HX.out w5 HB5.out).1.set5
 open Q627 in exact M625):p:=h
theorem Q646.Y645 (h:p:=by
 have HWI:=U (Sz L xs i hi ⟨tid,tname,tv,tn,false,ea⟩ tk tn' tf ts tA tm tc true (.slice (some ⟨tb,tf0,none⟩) L ct) W4 (by rw[HLL.out];exact HCI.out.later (HBW.out _ HB4.out)) hn1)
 obtain⟨c0,c1,c2,c3,c4,c5,c6,c7,c8,c9,cf⟩:=Fc (show W4.heap[w2.heap.size]?=some (.cells #[.int .u64 (tid:Nat),.string tname,.int .i64 tk,.int .i64 tn',.float .f64 tf,.string ts,.slice tA tm tc,.int .i64 tn,.bool false,.int .u64 (ea:Nat)] 39 (0,0)) from HX4.out)
 replace hW4:=U hW4
 clear cf7 cf8 cf9
 unfold DA at HWI
 dsimp only at HWI
 open Q524 in exact M523):p:=h
theorem M17 (h:p:=by
 have k5:((ea:Int)==0)=true:=by simp;omega
 have k5':((ea:Int) != 0)=false:=by simp;omega
 clear h5
 open Q646 in exact M645):p:=h
theorem M180 (h:p:=by
 have k2:(tn==en)=false:=by simpa using h2
 have k2':(tn != en)=true:=by simpa using h2
 exact M14):p:=h
theorem Q253.Y251 (h:p:=by
 cases tfl with
 | false=>
  have HN:Hid (Dc at' al ⟨3,id,en,ea,name,text,ev⟩ s=none):=U (by simp[Dc,HG.out, ])
  exact M28
 | true=>
  by_cases h2:tn=en
  rotate_left
  ·have HN : Hid (Dc at' al ⟨3, id, en, ea, name, text, ev⟩ s = none) := U (by simp [Dc, HG.out, h2])
   exact M180
  subst h2
  go_quiet (fail)
  generalize hw2:w1.drewN nq=w2 at *
  have HQ2:Hid (Below W1.heap.size W1 w2):=U (by rw[<-hw2];exact below_drewN HQ1.out nq)
  clear hw2
  clear x0 x1 x2 x3 x4 x5 x6 y0 y1 y2 e0 e1 e2 e3 e4 e5 e6 e7 e8 e9 e10
  clear t0 t1 t2 t3 t4 t5 t6 t7 t8 t9
  obtain⟨x0,x1,x2,x3,x4,x5,x6,xf⟩:=(HX.out w2 HQ2.out).1.cells
  obtain⟨y0,y1,y2,-⟩:=(HX.out w2 HQ2.out).2.1.cells
  obtain⟨e0,e1,e2,e3,e4,e5,e6,e7,e8,e9,e10⟩:=EBox.cells (HX.out w2 HQ2.out).2.2.2
  dsimp only at e0 e1 e2 e3 e4 e5
  obtain⟨t0,t1,t2,t3,t4,t5,t6,t7,t8,t9⟩:=HTC.out w2 HQ2.out
  obtain⟨W3,hW3⟩:=Rm (w2.alloc (.cells #[.int .u64 (tid:Nat),.string tname,.int .i64 tk,.int .i64 tn',.float .f64 tf,.string ts,.slice tA tm tc,.int .i64 tn,.bool true,.int .u64 (tat:Nat)] 39))
  have hb3:Below W1.heap.size W1 W3:=by rw[hW3];exact HQ2.out.alloc HQ2.out.size _
  have hx3:W3.heap[w2.heap.size]?=some (.cells #[.int .u64 (tid:Nat),.string tname,.int .i64 tk,.int .i64 tn',.float .f64 tf,.string ts,.slice tA tm tc,.int .i64 tn,.bool true,.int .u64 (tat:Nat)] 39 (0,0)):=by rw[hW3];exact heap_alloc_new ..
  have hz3:W3.heap.size=w2.heap.size+1:=by rw[hW3];simp
  have hz2:=HQ2.out.size
  have hS1:=HS1.out
  obtain⟨c0,c1,c2,c3,c4,c5,c6,c7,c8,c9,cf⟩:=Fc hx3
  have HB3:=U hb3;have HX3:=U hx3;have HZ3:=U hz3;have HZ2:=U hz2
  have cf7:=cf 7;have cf8:=cf 8;have cf9:=cf 9
  clear hb3 hx3 hz3 hz2 hS1 cf
  replace hW3:=U hW3
  go_upto_region 18 with fail
  rw[<-hW3.out]
  clear t0 t1 t2 t3 t4 t5 t6 t7 t8 t9
  clear x0 x1 x2 x3 x4 x5 x6 y0 y1 y2 e0 e1 e2 e3 e4 e5 e6 e7 e8 e9 e10
  obtain⟨x0,x1,x2,x3,x4,x5,x6,xf⟩:=(HX.out W3 HB3.out).1.cells
  obtain⟨y0,y1,y2,-⟩:=(HX.out W3 HB3.out).2.1.cells
  obtain⟨e0,e1,e2,e3,e4,e5,e6,e7,e8,e9,e10⟩:=EBox.cells (HX.out W3 HB3.out).2.2.2
  dsimp only at e0 e1 e2 e3 e4 e5
  go_upto_region 20 with fail
  obtain⟨W4,hW4⟩:=Rm ((W3.setCell ⟨w2.heap.size,8,none⟩ (.bool false)).setCell ⟨w2.heap.size,9,none⟩ (.int .u64 (ea:Nat)))
  rw[<-hW4]
  by_cases h5:ea=0
  ·have HN : Hid (Dc at' al ⟨3, id, tn, ea, name, text, ev⟩ s = some { s with tasks := GV s.tasks id }) := U (by simp [Dc, HG.out, h5])
   exact M17
  ·exact absurd (HE.out.a3 rfl) h5):p:=h
theorem Q430.Y428 (h:p:=by
 rcases HTI.out with ⟨hm1',hg⟩|⟨i,hi,hi',hid',hg⟩
 ·subst hm1'
  have HN:Hid (Dc at' al ⟨3,id,en,ea,name,text,ev⟩ s=none):=U (by simp[Dc,hg])
  exact M33
 ·open Q253 in exact M251):p:=h
theorem Q228.Y226 (h:p:=by
 open Q430 in exact M428):p:=h
theorem Q235.Y232 (h:p:=by
 have HX:Hid (∀W,Below W1.heap.size W1 W->RX W w.heap.size f (.slice Bu nu cu) s.closed s.next (.slice Ak nk ck) (.slice Aq nt ct) (.slice Am nm cm)/\BB W (w.heap.size+1) ff at' (some ⟨eb,eo,none⟩) m cap/\RX W (w.heap.size+1+1) ⟨#[]⟩ (.slice none 0 0) 0 0 (.slice none 0 0) (.slice none 0 0) (.slice none 0 0)/\EBox W (w.heap.size+3) (Db ⟨3,id,en,ea,name,text,ev⟩ vk vn vf vs A0 m0 c0)):=U fun W hW=>by
  exact M48
 open Q228 in exact M226):p:=h
theorem Q313.Y310 (h:p:=by
 obtain⟨W1,hW1⟩:=Rm (W0.alloc (.cells (Db ⟨3,id,en,ea,name,text,ev⟩ vk vn vf vs A0 m0 c0) 61))
 open Q235 in exact KQ):p:=h
theorem Q217.Y215 (h:p:=by
 obtain rfl:k=3:=hk
 open Q313 in exact KN):p:=h
theorem out3_any (s:ST)(f:ByteArray)(Bu:Option Addr)(nu cu:Nat)(uk ut um:Value)(b:BT)(A:Option Addr)(cap:Nat)(w:World)(h:OIn X w s uk ut um b A cap)(hp:0<b.es.length)(he:FW (b.es[0]'hp))(hk:b.es[0].k=3) :
  Calls Tryz.prog 81 #[.agg (rhC f (.slice Bu nu cu) s.closed s.next uk ut um),.agg #[.string b.flow,.int .u64 (b.at':Nat),.slice A b.es.length cap]] w (PT X w f (.slice Bu nu cu) (Dc b.at' (decide (b.es.length=1)) (b.es[0]'hp) s)):=by
 open Q217 in exact Rj
open Cm (FU Gr OJ)
variable {v w w' : World}
theorem BtC.read {xs:List Value}{bl:List BT}{A:Option Addr}{cap:Nat}(h:CIn w (.slice A bl.length cap) bl.length 3 xs)(k:BtC w xs bl):BtsIn w A cap bl:=by
 obtain⟨h1,h2,A',c',h3,h4,h5,h6⟩:=h
 injection h3 with e1 e2 e3
 subst e1;subst e3
 refine⟨h4,h5,fun hp=> ?_⟩
 obtain⟨b,off,q1,q2,q3⟩:=h6 hp
 refine⟨b,off,q1,q2,fun i hi=> ?_⟩
 obtain⟨A',c,k1,k2,k3,k4,k5,k6⟩:=k.2 i hi
 exact⟨A',c,k1,k2,k3,q3 _ _ k4,by rw[Nat.add_assoc];exact q3 _ _ k5,by rw[Nat.add_assoc];exact q3 _ _ k6⟩
theorem RBt.open {u:Value}{bl:List BT}(h:RBt w u bl):∃A cap,u= .slice A bl.length cap/\BtsIn w A cap bl:=by
 obtain⟨xs,h1,h2⟩:=h
 have h1':=h1
 obtain⟨-,-,A,cap,rfl,-,-,-⟩:=h1
 exact⟨A,cap,rfl,BtC.read h1' h2⟩
end Hi
end Go.Proofs.YtaahfiopdoinkaaGreat
