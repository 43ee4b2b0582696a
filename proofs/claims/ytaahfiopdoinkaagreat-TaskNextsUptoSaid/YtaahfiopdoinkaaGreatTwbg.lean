/- What TaskLists asks for, plainly. -/
import Derived.Laws.Rows
import Derived.Laws.IdiomRangeMap
import Derived.Test.YtaahfiopdoinkaaGreatTwbf
import Derived.Test.YtaahfiopdoinkaaGreatTwbe
import Derived.Test.YtaahfiopdoinkaaGreatTwao
import Derived.Test.YtaahfiopdoinkaaGreatTwau
import Derived.Test.YtaahfiopdoinkaaGreatTwbc
import Derived.Test.YtaahfiopdoinkaaGreatTwbb
import Derived.Test.YtaahfiopdoinkaaGreatRows
set_option maxRecDepth 100000
set_option maxHeartbeats 4000000
variable {p : Prop}
set_option linter.unusedVariables false
set_option linter.unusedSimpArgs false
open Go.RowKit
namespace Go.Proofs.YtaahfiopdoinkaaGreat
namespace Ta
open _root_.Go.Proofs.YtaahfiopdoinkaaGreat.Nm (Dk De)
open Vt (Da)
open Cn (BT)
open Hi (HM XM RIx XGood Gw DD FZ FE CIn Dx DP Dq)
open Cm (rowOf)
attribute [local go_sem] Oper.semAt_some
variable {w w' : World}
theorem Lx (l:List BT):Sl (Gw l):=by
 have h:∀(l:List BT) (x:XM),Sl x->Sl (l.foldl (fun x b=>(DD x b).2) x):=by
  intro l
  induction l with
  | nil=>intro x hx;exact hx
  | cons b t ih=>intro x hx;exact ih _ (Lz hx b)
 exact h l _ Ly
theorem flows_ok {x:XM}{uA uF:Value}(h:RIx w x uA uF):∀g∈x.flows,g.flow.size<=maxLen:=fun g hg=>by
 obtain⟨xs,-,hc⟩:=h.flows
 obtain⟨i,hi,rfl⟩:=List.getElem_of_mem hg
 exact(hc.2 i hi).1
section
variable {x : XM} {T N : Nat}
theorem PW (g:XGood x T N):∀h∈x.flows,h.s.tasks.length<=T+1:=fun h hh=>Nat.le_trans (FZ (g.good h hh).fine) (Nat.succ_le_succ (g.good h hh).tot)
theorem Pm (g:XGood x T N):∀h∈x.flows,h.s.timers.length<=T+1:=fun h hh=>Nat.le_trans (FE (g.good h hh).fine) (Nat.succ_le_succ (g.good h hh).tot)
theorem Fu (g:XGood x T N)(hT:T<=1000000000000000000)(hfl:∀h∈x.flows,h.flow.size<=maxLen)(hTN:x.flows.length*(T+1)<=1000000000000)(fl:Bool)(now:Nat):Gt x.flows (x.flows.flatMap (refsOf fl now)) (DJ fl now x):=
 Ts.Yt _ (VL g hT fl now).1 (VL g hT fl now).2 (fun r hr=>by
  obtain⟨h,hh,hm⟩:=List.mem_flatMap.1 hr
  obtain⟨h1,t,ht,h2,-⟩:=Oz hm
  exact⟨by rw[h2];exact(PX g hT hh).1 t ht,by rw[h1];exact hfl h hh⟩)
  (Nat.le_trans (FD fun h hh=>Nat.le_trans (Gc fl now h) (PW g h hh)) hTN)
theorem Pn (g:XGood x T N)(hT:T<=1000000000000000000)(hfl:∀h∈x.flows,h.flow.size<=maxLen)(hTN:x.flows.length*(T+1)<=1000000000000)(now:Nat):Gt x.flows (x.flows.flatMap (DT now)) (Oa now x):=
 Ts.Yt _ (Jb g hT now).1 (Jb g hT now).2 (fun r hr=>by
  obtain⟨h,hh,hm⟩:=List.mem_flatMap.1 hr
  obtain⟨h1,-,ht,-⟩:=Pu hm
  exact⟨(PX g hT hh).2 _ ht,by rw[h1];exact hfl h hh⟩)
  (Nat.le_trans (FD fun h hh=>Nat.le_trans (Ot now h) (Pm g h hh)) hTN)
theorem Uo (g:XGood x T N)(hTN:x.flows.length*(T+1)<=1000000000000)(fl:Bool)(now:Nat):(DJ fl now x).length<=1000000000000:=by
 unfold DJ;rw[FF]
 exact Nat.le_trans (FD fun h hh=>Nat.le_trans (Gc fl now h) (PW g h hh)) hTN
theorem dueX_len (g:XGood x T N)(hTN:x.flows.length*(T+1)<=1000000000000)(now:Nat):(Oa now x).length<=1000000000000:=by
 unfold Oa;rw[FF]
 exact Nat.le_trans (FD fun h hh=>Nat.le_trans (Ot now h) (Pm g h hh)) hTN
theorem SN (g:XGood x T N)(fl:Bool)(now:Nat):(DJ fl now x).length<=x.flows.length*(T+1):=by
 unfold DJ;rw[FF]
 exact FD fun h hh=>Nat.le_trans (Gc fl now h) (PW g h hh)
theorem NM (g:XGood x T N)(now:Nat):(Oa now x).length<=x.flows.length*(T+1):=by
 unfold Oa;rw[FF]
 exact FD fun h hh=>Nat.le_trans (Ot now h) (Pm g h hh)
theorem VD (hfl:∀h∈x.flows,h.flow.size<=maxLen)(fl:Bool)(now:Nat):∀r∈DJ fl now x,r.flow.size<=maxLen:=fun r hr=>by
 obtain⟨h,hh,hm⟩:=List.mem_flatMap.1 ((Gd _ _).1 hr)
 obtain⟨h1,-⟩:=Oz hm
 rw[h1];exact hfl h hh
theorem dueX_ok (hfl:∀h∈x.flows,h.flow.size<=maxLen)(now:Nat):∀r∈Oa now x,r.flow.size<=maxLen:=fun r hr=>by
 obtain⟨h,hh,hm⟩:=List.mem_flatMap.1 ((Gd _ _).1 hr)
 obtain⟨h1,-⟩:=Pu hm
 rw[h1];exact hfl h hh
end
end Ta
open Go.RowKit Go.Sort
namespace Ta
open _root_.Go.Proofs.YtaahfiopdoinkaaGreat.Nm (Dk De GL)
open Vt (Da)
open Lv (DZ)
open Hi (CIn Dr)
open Ts (mixed DF)
attribute [local go_sem] Oper.semAt_some
variable {w w' : World}
theorem or3_neg {a b:Nat}{y z:Int}(h:or3 (DZ a b) y z<0):a<=b:=by
 unfold or3 DZ at h
 rcases Nat.lt_trichotomy a b with q|q|q
 ·omega
 ·omega
 ·rw[if_neg (show ¬a<b by omega),if_pos q] at h;exact absurd h O3
theorem or3_pos {a b:Nat}{y z:Int}(h:¬or3 (DZ a b) y z<0):b<=a:=by
 unfold or3 DZ at h
 rcases Nat.lt_trichotomy a b with q|q|q
 ·rw[if_pos q] at h;exact absurd O3 h
 ·omega
 ·omega
theorem Q542.Y541 (h:p:=by
 obtain⟨⟨r0,r1,r2,r3⟩,p0,p1,p2,p3⟩:=HZ2.out
 have hx2:=HX2.out
 have f0:wq.frozen? ⟨g5,0,none⟩=false:=by simp[World.frozen?,hx2]
 have f1:wq.frozen? ⟨g5,1,none⟩=false:=by simp[World.frozen?,hx2]
 have f2:wq.frozen? ⟨g5,2,none⟩=false:=by simp[World.frozen?,hx2]
 have f3:wq.frozen? ⟨g5,3,none⟩=false:=by simp[World.frozen?,hx2]
 obtain⟨W5,hW5⟩:=Rm ((((wq.setCell ⟨g5,0,none⟩ (.string yf)).setCell ⟨g5,1,none⟩ (.int .u64 (yi:Nat))).setCell ⟨g5,2,none⟩ (.int .i64 yn)).setCell ⟨g5,3,none⟩ (.int .u64 (ya:Nat)))
 have HX5:Hid (W5.heap[g5]?=some (.cells #[.string yf,.int .u64 (yi:Nat),.int .i64 yn,.int .u64 (ya:Nat)] 57 (0,0))):=U (by rw[hW5];simp[World.setCell,Array.getElem?_modify,hx2])
 have HY5:Hid (W5.heap[g4]?=some (.cells #[.string ⟨#[]⟩,.int .u64 0,.int .i64 0,.int .u64 0] 57 (0,0))):=U (by have:=HGG.out;rw[hW5,Below.heap_setCell _ _ _ _ (by simp;omega),Below.heap_setCell _ _ _ _ (by simp;omega),Below.heap_setCell _ _ _ _ (by simp;omega),Below.heap_setCell _ _ _ _ (by simp;omega)];exact HY2.out)
 have HB5:Hid (Below w.heap.size w W5):=U (by rw[hW5];exact(((HB2.out.setCell HGG.out.2.2 _).setCell HGG.out.2.2 _).setCell HGG.out.2.2 _).setCell HGG.out.2.2 _)
 clear hx2
 replace hW5:=U hW5
 go_wp2_with fail
 rw[<-hW5.out]
 clear r0 r1 r2 r3 p0 p1 p2 p3 f0 f1 f2 f3
 go_roundw
 case rel=>exact⟨i+1,⟨yf,yi,yn,ya⟩,by go_num,O0,O0,HYR.out,HM2.out,HB5.out,HX5.out,HY5.out⟩
 case measure=>(simp[intOf];try omega)):p:=h
theorem Q543.Y541 (h:p:=by
 go_wp2_with fail
 go_roundw
 case rel=>exact⟨i+1,⟨xf,xi,xn,xa⟩,by go_num,O0,O0,HXR.out,HM2.out,HB2.out,HX2.out,HY2.out⟩
 case measure=>(simp[intOf];try omega)):p:=h
theorem M541 (h:p:=by
 go_wp2_with fail
 go_quiet_grown (first | (go_at_call 46;refine Calls.grown_of (hcg _ _)))
 have hgq:=DF wr nq osq
 have HB2:Hid (Below w.heap.size w (grow (wr.drewN nq) osq)):=U (HB.out.trans (hgq.mono HB.out.size))
 have HX2:=U ((hgq.block g5 H5L.out).trans HX.out)
 have HY2:=U ((hgq.block g4 H4L.out).trans HY.out)
 have HZ2:=U (Z.out nq osq)
 generalize hwq:grow (wr.drewN (GrownBy.mk nq osq).n) (GrownBy.mk nq osq).os=wq
 rw[show grow (wr.drewN nq) osq=wq from hwq] at HB2 HX2 HY2 HZ2
 clear hwq hcg hgq x0 x1 x2 x3 y0 y1 y2 y3
 exact Y541):p:=h
theorem min_any (rs:List RF)(n:Nat)(hn:n=rs.length)(h0:0<n)(A:Option Addr)(c:Nat)(mb:Nat)(w:World)(hin:CIn w (.slice A n c) n 4 (rs.flatMap rfL))(hok:∀r∈rs,r.flow.size<=maxLen)(hm:PMap w mb 0 [])(hle:n<=1000000000000) :
  Calls Tryz.prog 45 #[.slice A n c,.func (.func 46) #[.map (some mb)] #[]] w fun e w'=>∃r∈rs,e= .returned (.agg #[.string r.flow,.int .u64 (r.id:Nat),.int .i64 r.n,.int .u64 (r.at':Nat)])/\(∀q∈rs,r.at'<=q.at')/\Below w.heap.size w w':=by
 have HN:=U hn;have HIN:=U hin;have HOK:=U hok;have HPM:=U hm
 have mx:=mixed
 obtain⟨b,off,xf,xi,xn,xa,rfl,hr,hbl,y0,y1,y2,y3⟩:=GD hin hn 0 h0
 have h0z:(0:Int)<(n:Int):=O0
 have h1z:¬(n:Int)<1:=O0
 simp only[Nat.zero_mul,Nat.add_zero] at y0 y1 y2 y3
 have HR:=U hr
 clear hn hin hok hm hr
 go_enter Tryz.func45,Tryz.ntmps45
 go_upto_region 4 with fail
 obtain⟨g4,hg4⟩:∃g,g=w.heap.size:=⟨_,rfl⟩
 obtain⟨g5,hg5⟩:∃g,g=w.heap.size+1:=⟨_,rfl⟩
 obtain⟨W1,hW1⟩:=Rm ((w.alloc (.cells #[.string ⟨#[]⟩,.int .u64 0,.int .i64 0,.int .u64 0] 57)).alloc (.cells #[.string xf,.int .u64 (xi:Nat),.int .i64 xn,.int .u64 (xa:Nat)] 57))
 have hb1:Below w.heap.size w W1:=by rw[hW1];exact Rl.alloc O3 _
 have hx1:W1.heap[g5]?=some (.cells #[.string xf,.int .u64 (xi:Nat),.int .i64 xn,.int .u64 (xa:Nat)] 57 (0,0)):=by
  rw[hW1,hg5]
  have e:=heap_alloc_new (w.alloc (.cells #[.string ⟨#[]⟩,.int .u64 0,.int .i64 0,.int .u64 0] 57)) (.cells #[.string xf,.int .u64 (xi:Nat),.int .i64 xn,.int .u64 (xa:Nat)] 57)
  rw[World.size_alloc] at e
  exact e
 have hy1:W1.heap[g4]?=some (.cells #[.string ⟨#[]⟩,.int .u64 0,.int .i64 0,.int .u64 0] 57 (0,0)):=by rw[hW1,hg4];exact(heap_alloc_old _ _ O3).trans (heap_alloc_new w _)
 rw[<-hg5, <-hg4, <-hW1]
 have HGG:Hid (w.heap.size<=g4/\g4<g5/\w.heap.size<=g5):=U O0
 have HB1:=U hb1;have HX1:=U hx1;have HY1:=U hy1
 have HM1:Hid (xa=xa/\∀k q,k<1->rs[k]?=some q->xa<=q.at'):=U ⟨rfl,fun k q hk hq=>by
  obtain rfl:k=0:=O0
  rw[HR.out] at hq;cases hq;exact Nat.le_refl _⟩
 have HMEM:Hid ((⟨xf,xi,xn,xa⟩:RF)∈rs):=U (List.mem_of_getElem? HR.out)
 clear hb1 hx1 hy1 y0 y1 y2 y3 hbl hW1 hg4 hg5
 go_wp2_with fail
 go_loopw [6] (fun v wr=>∃(i:Nat) (r:RF),v= .int .i64 i/\1<=i/\i<=n/\r∈rs/\(∀k q,k<i->rs[k]?=some q->r.at'<=q.at')/\Below w.heap.size w wr/\wr.heap[g5]?=some (.cells #[.string r.flow,.int .u64 (r.id:Nat),.int .i64 r.n,.int .u64 (r.at':Nat)] 57 (0,0))/\wr.heap[g4]?=some (.cells #[.string ⟨#[]⟩,.int .u64 0,.int .i64 0,.int .u64 0] 57 (0,0))) (fun v _=>n-(intOf v).toNat)
 case atStart=>exact⟨1,⟨xf,xi,xn,xa⟩,by go_num,Nat.le_refl _,h0,HMEM.out,HM1.out.2,HB1.out,HX1.out,HY1.out⟩
 case round=>
  obtain⟨i,r,rfl,hi1,hin,hr,hmin,hb,hx,hy⟩:=hrel
  obtain⟨xf,xi,xn,xa⟩:=r
  dsimp only at hmin hx
  have hg5l:g5<wr.heap.size:=(Array.getElem?_eq_some_iff.1 hx).1
  have hg4l:g4<wr.heap.size:=(Array.getElem?_eq_some_iff.1 hy).1
  by_cases hlt:i<n
  ·have hltz : (i : Int) < (n : Int) := O0
   obtain⟨b',off',yf,yi,yn,ya,e1,hri,hbl,y0,y1,y2,y3⟩:=GD (HIN.out.later hb) HN.out i hlt
   cases e1
   have hG:=fun k os=>DF wr k os
   have HBL:=U hbl
   have Z:Hid (∀k os,((grow (wr.drewN k) os).cell? ⟨b,off+i*4,none⟩=some (.string yf)/\(grow (wr.drewN k) os).cell? ⟨b,off+i*4+1,none⟩=some (.int .u64 (yi:Nat))/\(grow (wr.drewN k) os).cell? ⟨b,off+i*4+2,none⟩=some (.int .i64 yn)/\(grow (wr.drewN k) os).cell? ⟨b,off+i*4+3,none⟩=some (.int .u64 (ya:Nat)))/\((grow (wr.drewN k) os).cell? ⟨g5,0,none⟩=some (.string xf)/\(grow (wr.drewN k) os).cell? ⟨g5,1,none⟩=some (.int .u64 (xi:Nat))/\(grow (wr.drewN k) os).cell? ⟨g5,2,none⟩=some (.int .i64 xn)/\(grow (wr.drewN k) os).cell? ⟨g5,3,none⟩=some (.int .u64 (xa:Nat)))):=U fun k os=>by
    have h5:=((hG k os).block g5 hg5l).trans hx
    exact⟨⟨((hG k os).cell (p:=⟨b,_,none⟩) hbl).trans y0,((hG k os).cell (p:=⟨b,_,none⟩) hbl).trans y1,((hG k os).cell (p:=⟨b,_,none⟩) hbl).trans y2,((hG k os).cell (p:=⟨b,_,none⟩) hbl).trans y3⟩,by simp[World.cell?,h5],by simp[World.cell?,h5],by simp[World.cell?,h5],by simp[World.cell?,h5]⟩
   obtain⟨cv,hcv⟩:=Rm (or3 (DZ ya xa) (GL ((Dr [] yf).getD 0:Nat) ((Dr [] xf).getD 0:Nat)) (DZ yi xi))
   have hyr:(⟨yf,yi,yn,ya⟩:RF)∈rs:=List.mem_of_getElem? hri
   have hcg:∀k os,Calls Tryz.prog 46 #[.map (some mb),.agg #[.string yf,.int .u64 (yi:Nat),.int .i64 yn,.int .u64 (ya:Nat)],.agg #[.string xf,.int .u64 (xi:Nat),.int .i64 xn,.int .u64 (xa:Nat)]] (grow (wr.drewN k) os) fun e w'=>e= .returned (.int .i64 cv)/\∃q os',w'=grow ((grow (wr.drewN k) os).drewN q) os':=fun k os=>by
    rw[hcv]
    exact XG yf xf yi xi ya xa yn xn [] mb 0 _ (HPM.out.keep (((hG k os).block mb (Nat.lt_of_lt_of_le HPM.out.lt hb.size)).trans (hb.block mb HPM.out.lt))) (HOK.out _ hyr) (HOK.out _ hr)
   have HCV:=U hcv;have HYR:=U hyr;have HRI:=U hri
   have HMIN:=U hmin;have HB:=U hb;have HXR:=U hr;have HX:=U hx;have HY:=U hy
   have H5L:=U hg5l;have H4L:=U hg4l
   clear hcv hyr hri hmin hb hr hx hy hbl hg5l hg4l y0 y1 y2 y3 hG
   have y0:=fun k os=>(Z.out k os).1.1;have y1:=fun k os=>(Z.out k os).1.2.1;have y2:=fun k os=>(Z.out k os).1.2.2.1;have y3:=fun k os=>(Z.out k os).1.2.2.2
   have x0:=fun k os=>(Z.out k os).2.1;have x1:=fun k os=>(Z.out k os).2.2.1;have x2:=fun k os=>(Z.out k os).2.2.2.1;have x3:=fun k os=>(Z.out k os).2.2.2.2
   by_cases hneg:cv<0
   ·have HM2:Hid (∀k q,k<i+1->rs[k]?=some q->ya<=q.at'):=U fun k q hk hq=>by
     have hle2:ya<=xa:=or3_neg (by rw[<-HCV.out];exact hneg)
     by_cases e:k=i
     ·subst e;rw[HRI.out] at hq;cases hq;exact Nat.le_refl _
     ·exact Nat.le_trans hle2 (HMIN.out k q O0 hq)
    open Q542 in exact M541
   ·have HM2:Hid (∀k q,k<i+1->rs[k]?=some q->xa<=q.at'):=U fun k q hk hq=>by
     have hle2:xa<=ya:=or3_pos (by rw[<-HCV.out];exact hneg)
     by_cases e:k=i
     ·subst e;rw[HRI.out] at hq;cases hq;exact hle2
     ·exact HMIN.out k q O0 hq
    open Q543 in exact M541
  ·have hltz : ¬ (i : Int) < (n : Int) := O0
   have HALL:Hid (∀q∈rs,xa<=q.at'):=U fun q hq=>by
    obtain⟨k,hk,rfl⟩:=List.getElem_of_mem hq
    exact hmin k _ (by have:=HN.out;omega) (List.getElem?_eq_getElem hk)
   have HXR:=U hr
   have x0:wr.cell? ⟨g5,0,none⟩=some (.string xf):=by simp[World.cell?,hx]
   have x1:wr.cell? ⟨g5,1,none⟩=some (.int .u64 (xi:Nat)):=by simp[World.cell?,hx]
   have x2:wr.cell? ⟨g5,2,none⟩=some (.int .i64 xn):=by simp[World.cell?,hx]
   have x3:wr.cell? ⟨g5,3,none⟩=some (.int .u64 (xa:Nat)):=by simp[World.cell?,hx]
   have p0:wr.cell? ⟨g4,0,none⟩=some (.string ⟨#[]⟩):=by simp[World.cell?,hy]
   have p1:wr.cell? ⟨g4,1,none⟩=some (.int .u64 0):=by simp[World.cell?,hy]
   have p2:wr.cell? ⟨g4,2,none⟩=some (.int .i64 0):=by simp[World.cell?,hy]
   have p3:wr.cell? ⟨g4,3,none⟩=some (.int .u64 0):=by simp[World.cell?,hy]
   have f0:wr.frozen? ⟨g4,0,none⟩=false:=by simp[World.frozen?,hy]
   have f1:wr.frozen? ⟨g4,1,none⟩=false:=by simp[World.frozen?,hy]
   have f2:wr.frozen? ⟨g4,2,none⟩=false:=by simp[World.frozen?,hy]
   have f3:wr.frozen? ⟨g4,3,none⟩=false:=by simp[World.frozen?,hy]
   obtain⟨W6,hW6⟩:=Rm ((((wr.setCell ⟨g4,0,none⟩ (.string xf)).setCell ⟨g4,1,none⟩ (.int .u64 (xi:Nat))).setCell ⟨g4,2,none⟩ (.int .i64 xn)).setCell ⟨g4,3,none⟩ (.int .u64 (xa:Nat)))
   have HX6:Hid (W6.heap[g4]?=some (.cells #[.string xf,.int .u64 (xi:Nat),.int .i64 xn,.int .u64 (xa:Nat)] 57 (0,0))):=U (by rw[hW6];simp[World.setCell,Array.getElem?_modify,hy])
   have HB6:Hid (Below w.heap.size w W6):=U (by rw[hW6];exact(((hb.setCell HGG.out.1 _).setCell HGG.out.1 _).setCell HGG.out.1 _).setCell HGG.out.1 _)
   clear hmin hr hb hx hy hg5l hg4l
   replace hW6:=U hW6
   go_wp2_with fail
   rw[<-hW6.out]
   (try simp only[Exit.inBlock,Exit.then])
   have hx6:=HX6.out
   have q0:W6.cell? ⟨g4,0,none⟩=some (.string xf):=by simp[World.cell?,hx6]
   have q1:W6.cell? ⟨g4,1,none⟩=some (.int .u64 (xi:Nat)):=by simp[World.cell?,hx6]
   have q2:W6.cell? ⟨g4,2,none⟩=some (.int .i64 xn):=by simp[World.cell?,hx6]
   have q3:W6.cell? ⟨g4,3,none⟩=some (.int .u64 (xa:Nat)):=by simp[World.cell?,hx6]
   refine bodyPost_ret (v:= .agg #[.string xf,.int .u64 (xi:Nat),.int .i64 xn,.int .u64 (xa:Nat)]) (by simp[results,Tryz.results45,go_sem,q0,q1,q2,q3]) rfl ?_
   exact⟨⟨xf,xi,xn,xa⟩,HXR.out,rfl,HALL.out,HB6.out⟩
open Hi (TK HM XM XGood XAt DP FV)
attribute [local go_sem] Oper.semAt_some
variable {E Z : Nat -> Prop} {w w' : World} {xb : Nat} {x : XM} {T N : Nat}
theorem next_of {rs:List RF}{l:List Nat}{now:Nat}(hm:∀a,a∈rs.map (·.at')↔a∈l):(Fz now rs= []->NextIs now l none)/\∀r∈Fz now rs,(∀q∈Fz now rs,r.at'<=q.at')->NextIs now l (some r.at'):=by
 have hin:∀a∈l,now<a->∃q∈Fz now rs,q.at'=a:=fun a ha hn=>by
  obtain⟨q,hq,e⟩:=List.mem_map.1 ((hm a).2 ha)
  exact⟨q,List.mem_filter.2 ⟨hq,decide_eq_true (by rw[e];exact hn)⟩,e⟩
 refine⟨fun h0 a ha=> ?_,fun r hr hmin=> ?_⟩
 ·rcases Nat.lt_or_ge now a with q | q
  ·obtain ⟨r, hr, -⟩ := hin a ha q
   rw[h0] at hr;cases hr
  ·exact q
 ·obtain ⟨h1, h2⟩ := List.mem_filter.1 hr
  exact⟨(hm _).1 (List.mem_map.2 ⟨r,h1,rfl⟩),of_decide_eq_true h2,fun a ha hn=>by
   obtain⟨q,hq,e⟩:=hin a ha hn
   rw[<-e];exact hmin q hq⟩
def Xd (o:Option Nat):Value:= .tuple #[.int .u64 (o.getD 0:Nat),.bool o.isSome]
theorem run_at (f:ByteArray)(i:Nat)(n:Int)(a:Nat)(w:World):(Instr.field 57 (.agg #[.string f,.int .u64 (i:Nat),.int .i64 n,.int .u64 (a:Nat)]) 3).run Tryz.prog w= .ok (.int .u64 (a:Nat)) w:=O2
theorem LC (H:XAt E w xb Z x)(hg:XGood x T N)(hi:Sl x)(hT:T<=1100000000000)(hN:x.flows.length<=1000000)(hTN:x.flows.length*(T+1)<=300000000000)(hfl:∀h∈x.flows,h.flow.size<=maxLen)(now:Nat) :
  Calls Tryz.prog 23 #[.pointer (some ⟨xb,0,none⟩),.int .u64 (now:Nat)] w fun e w'=>∃o,e= .returned (Xd o)/\NextIs now (Ov x) o/\Below w.heap.size w w':=by
 have hmm:= @run_makeMap Tryz.prog
 have hTN1:x.flows.length*(T+1)<=1000000000000:=O0
 have hT3:T<=1000000000000000000:=O0
 obtain⟨l1,hl1⟩:∃l,l=DJ false 18446744073709551615 x:=⟨_,rfl⟩
 obtain⟨l2,hl2⟩:∃l,l=DJ true 18446744073709551615 x:=⟨_,rfl⟩
 obtain⟨l3,hl3⟩:∃l,l=Oa 18446744073709551615 x:=⟨_,rfl⟩
 have hn1:l1.length<=300000000000:=by rw[hl1];exact Nat.le_trans (SN hg _ _) hTN
 have hn2:l2.length<=300000000000:=by rw[hl2];exact Nat.le_trans (SN hg _ _) hTN
 have hn3:l3.length<=300000000000:=by rw[hl3];exact Nat.le_trans (NM hg _) hTN
 have HLL:Hid (([l1,l2,l3]:List (List RF)).flatten=l1++l2++l3):=U O3
 have HATS:Hid (∀a,a∈(l1++l2++l3).map (·.at')↔a∈Ov x):=U (by
  rw[hl1,hl2,hl3]
  exact Lo fun a ha=>Nat.le_trans (XJ hi a ha) (by unfold UP;omega))
 have HOK:Hid (∀r∈l1++l2++l3,r.flow.size<=maxLen):=U fun r hr=>by
  rw[hl1,hl2,hl3] at hr
  rcases List.mem_append.1 hr with hr|hr
  ·rcases List.mem_append.1 hr with hr | hr
   ·exact VD hfl _ _ r hr
   ·exact VD hfl _ _ r hr
  ·exact dueX_ok hfl _ r hr
 obtain⟨W0,hW0⟩:=Rm (w.alloc (.cells #[.int .u64 (now:Nat)] 23))
 obtain⟨nb,hnb⟩:=Rm (w.heap.size)
 have hb0:Below w.heap.size w W0:=by rw[hW0];exact Rl
 have hc0:W0.cell? ⟨nb,0,none⟩=some (.int .u64 (now:Nat)):=by rw[hW0,hnb];exact(FV (World.alloc_heap_new w _)).1
 have hs0:nb<W0.heap.size:=by rw[hW0,hnb];simp
 have HR:=U fun W (hb:Below W0.heap.size W0 W)=>by
  have h:=Oh ((H.later hb0).later hb) hg hT hN hTN1 hfl 18446744073709551615 _ (Fu hg hT3 hfl hTN1 false 18446744073709551615)
  rw[<-hl1] at h
  exact h
 have HFL:=U fun W (hb:Below W0.heap.size W0 W)=>by
  have h:=Ki ((H.later hb0).later hb) hg hT hN hTN1 hfl _ (Fu hg hT3 hfl hTN1 true 18446744073709551615)
  rw[<-hl2] at h
  exact h
 have HD:=U fun W (hb:Below W0.heap.size W0 W)=>by
  have h:=Ue ((H.later hb0).later hb) hg hT hN hTN1 hfl 18446744073709551615 _ (Pn hg hT3 hfl hTN1 18446744073709551615)
  rw[<-hl3] at h
  exact h
 have HB0:=U hb0;have HC0:=U hc0;have HS0:=U hs0
 clear H hg hi hT hN hTN hTN1 hfl hT3 hl1 hl2 hl3 hb0 hc0 hs0
 replace hW0:=U hW0;replace hnb:=U hnb
 go_enter Tryz.func23,Tryz.ntmps23
 go_upto_region 1 with fail
 rw[<-hW0.out, <-hnb.out]
 go_wp2_with fail
 refine(HR.out _ (Below.refl _ _)).mono ?_
 rintro e w1 ⟨A1,c1,rfl,hb1,hi1,-⟩
 have HB1:=U hb1;have HI1:=U hi1
 clear hb1 hi1
 go_wp2_with fail
 refine(HFL.out _ HB1.out).mono ?_
 rintro e w2 ⟨A2,c2,rfl,hb2,hi2,-⟩
 have HB2:Hid (Below W0.heap.size W0 w2):=U (HB1.out.trans (hb2.mono HB1.out.size));have HI2:=U hi2;have HI12:=U (HI1.out.later hb2)
 clear hb2 hi2
 go_wp2_with fail
 refine(HD.out _ HB2.out).mono ?_
 rintro e w3 ⟨A3,c3,rfl,hb3,hi3,-⟩
 have HB3:Hid (Below W0.heap.size W0 w3):=U (HB2.out.trans (hb3.mono HB2.out.size))
 obtain⟨W5,hW5⟩:=Rm (w3.alloc (.cells #[.slice A1 l1.length c1,.slice A2 l2.length c2,.slice A3 l3.length c3] 48))
 obtain⟨ab,hab⟩:=Rm (w3.heap.size)
 have hb5:Below w3.heap.size w3 W5:=by rw[hW5];exact Rl
 have hx5:W5.heap[ab]?=some (.cells #[.slice A1 l1.length c1,.slice A2 l2.length c2,.slice A3 l3.length c3] 48 (0,0)):=by rw[hW5,hab];exact heap_alloc_new _ _
 have HQ:Hid (QIn W5 ab [l1,l2,l3]):=U ⟨(Array.getElem?_eq_some_iff.1 hx5).1,fun i hi=>by
  rcases (by simp at hi;omega:i=0\/i=1\/i=2) with rfl|rfl|rfl
  ·exact⟨A1,c1,by simp[World.cell?,hx5],(HI12.out.later hb3).later hb5⟩
  ·exact⟨A2,c2,by simp[World.cell?,hx5],(HI2.out.later hb3).later hb5⟩
  ·exact⟨A3,c3,by simp[World.cell?,hx5],hi3.later hb5⟩⟩
 have HB5:Hid (Below W0.heap.size W0 W5):=U (HB3.out.trans (hb5.mono HB3.out.size))
 clear hb3 hi3 hb5 hx5 HR HFL HD HI1 HI12 HI2 HB1 HB2
 have HCC:=U (Jf [l1,l2,l3] 3 rfl ab 3 W5 HQ.out (by rw[HLL.out];simp only[List.length_append];omega) O0 O0 O0)
 rw[HLL.out] at HCC
 obtain⟨L,hL⟩:=Rm (l1++l2++l3)
 have hLn:L.length<=900000000000:=by rw[hL];simp only[List.length_append];omega
 rw[<-hL] at HCC HATS HOK
 replace hW5:=U hW5;replace hab:=U hab;clear hL
 go_wp2_with fail
 rw[<-hW5.out, <-hab.out]
 refine HCC.out.mono ?_
 rintro e w6 ⟨v,rfl,hown,hb6⟩
 obtain⟨A,c,rfl,-⟩:=DS hown
 obtain⟨n,hn⟩:=Rm (L.length)
 have HLN:=U hLn
 rw[<-hn] at hown hLn
 have HDF:=U (Kr L n hn W5.heap.size A c now nb w6 hown hb6.size (by have:=HB5.out.size;have:=HS0.out;omega) (((HB5.out.trans (hb6.mono HB5.out.size)).cell (p:=⟨nb,0,none⟩) HS0.out).trans HC0.out) O0)
 have HB6:Hid (Below w.heap.size w w6):=U (HB0.out.trans ((HB5.out.trans (hb6.mono HB5.out.size)).mono HB0.out.size))
 have HZ5:Hid (w.heap.size<=W5.heap.size/\W5.heap.size<=w6.heap.size):=U ⟨by have:=HB0.out.size;have:=HB5.out.size;omega,hb6.size⟩
 rw[<-hn]
 have HN:=U hn
 clear hown hb6 HQ HCC hn hLn
 go_wp2_with fail
 refine HDF.out.mono ?_
 rintro e w7 ⟨m,rfl,hm,hin,hb7⟩
 have HB7:Hid (Below w.heap.size w w7):=U (HB6.out.trans (hb7.mono HZ5.out.1))
 have hml:m<=900000000000:=by rw[hm];exact Nat.le_trans (LJ now L) HLN.out
 have HM:=U hm;have HIN:=U hin
 have HNX:=U (next_of (now:=now) HATS.out)
 clear hb7 hm hin HDF
 rcases Nat.eq_zero_or_pos m with h0|h0
 ·subst h0
  have HN0:Hid (NextIs now (Ov x) none):=U (HNX.out.1 (List.eq_nil_of_length_eq_zero HM.out.symm))
  go_wp2_with fail
  (try simp only[Exit.inBlock,Exit.then])
  refine bodyPost_ret (v:= .tuple #[.int .u64 0,.bool false]) (by simp[results,Tryz.results23,go_sem]) rfl ?_
  exact⟨none,rfl,HN0.out,HB7.out⟩
 ·have h0z : ¬ ((m : Int) = 0) := O0
  obtain⟨W8,hW8⟩:=Rm (w7.alloc (.map #[] 0))
  obtain⟨mb,hmb⟩:=Rm (w7.heap.size)
  have hb8:Below w7.heap.size w7 W8:=by rw[hW8];exact Rl
  have hp8:PMap W8 mb 0 []:=by rw[hW8,hmb];exact PMap.made w7
  have HB8:Hid (Below w.heap.size w W8):=U (HB7.out.trans (hb8.mono HB7.out.size))
  have HMF:=U (min_any (Fz now L) m HM.out h0 A c mb W8 (HIN.out.later hb8) (fun r hr=>HOK.out r (List.mem_filter.1 hr).1) hp8 O0)
  clear hb8 hp8
  replace hW8:=U hW8;replace hmb:=U hmb
  go_wp2_with fail
  rw[<-hW8.out, <-hmb.out]
  refine HMF.out.mono ?_
  rintro e w9 ⟨r,hr,rfl,hmin,hb9⟩
  have HB9:Hid (Below w.heap.size w w9):=U (HB8.out.trans (hb9.mono HB8.out.size))
  have HN9:Hid (NextIs now (Ov x) (some r.at')):=U (HNX.out.2 r hr hmin)
  clear hr hmin hb9 HMF
  obtain⟨rf,ri,rn,ra⟩:=r
  dsimp only
  have hfd:=run_at rf ri rn ra
  go_wp2_with fail
  (try simp only[Exit.inBlock,Exit.then])
  refine bodyPost_ret (v:= .tuple #[.int .u64 (ra:Nat),.bool true]) ?_ rfl ?_
  ·simp[results,Tryz.results23,go_sem]
  exact⟨some ra,rfl,HN9.out,HB9.out⟩
open Ev (take_drop tk ap rd1 rd2 Dh)
open Hi (RIx IBox Dx Dq Dd Dg)
attribute [local go_sem] Oper.semAt_some
variable {w w' : World} {x : XM}
theorem rlen2 {F:HM->List RF}{M:Nat}(h:∀g∈x.flows,(F g).length<=M):(DQ (x.flows.flatMap F)).length<=x.flows.length*M:=by
 rw[FF];exact FD h
theorem JF {now a:Nat}{o:Option Nat}(h:¬now<a):Oe now o a=o:=by unfold Oe;rw[if_neg h]
theorem Yq {now a:Nat}(h:now<a):Oe now none a=some a:=by unfold Oe;rw[if_pos h]
theorem JI {now a k:Nat}(h:now<a)(h2:a<k):Oe now (some k) a=some a:=by unfold Oe;rw[if_pos h];simp[h2]
theorem JH {now a k:Nat}(h:now<a)(h2:¬a<k):Oe now (some k) a=some k:=by unfold Oe;rw[if_pos h];simp[h2]
theorem Kg {now:Nat}{L:List RF}{j:Nat}{r:RF}(h:L[j]?=some r):Sf now ((L.take (j+1)).map (·.at'))=Oe now (Sf now ((L.take j).map (·.at'))) r.at':=by
 obtain⟨hj,e⟩:=List.getElem?_eq_some_iff.1 h
 rw[List.take_succ_eq_append_getElem hj,List.map_append,e]
 exact UW _ _ _
theorem M145 (h:p:=by
 go_wp2_with fail
 go_roundw
 case rel=>exact⟨j+1,some xa,by go_num,by go_num,rfl,O0,HST.out.symm,HB.out,HI.out⟩
 case measure=>(simp[intOf];try omega)):p:=h
theorem Q649.Y648 (h:p:=by
 have hI0:IBox W0 gb (.slice AA nA cA) (.slice AF nF cF):=by rw[hW0,hgb];exact IBox.new ..
 obtain⟨u0,hu0⟩:∃u,u=W0.drew:=⟨_,rfl⟩
 have hbu:Below w.heap.size w u0:=by rw[hu0];exact Da hb0
 have hbu2:Below W0.heap.size W0 u0:=by rw[hu0];exact Da (Below.refl _ _)
 have hiu:=hI0.later hbu2 hI0.lt
 have HBU:=U hbu
 have HBu0:Hid (Below u0.heap.size u0 u0):=U (Below.refl _ _)
 have HKS:Hid (∀W:World,Below u0.heap.size u0 W->(fun W:World=>W.cell? ⟨gb,0,none⟩=some (.slice AA nA cA)/\W.cell? ⟨gb,1,none⟩=some (.slice AF nF cF)) W):=U fun W hW=>by
  obtain⟨q0,q1,-⟩:=(hiu.later hW hiu.lt).cells
  exact⟨q0,q1⟩
 have HR1:Hid (∀W:World,Below u0.heap.size u0 W->Calls Tryz.prog 18 #[.agg #[.slice AA nA cA,.slice AF nF cF],.bool false,.int .u64 9223372036854775807] W fun e w'=>∃v',e= .returned v'/\Below W.heap.size W w'/\w'.ownsRow W.heap.size 53 4 v' n1 (l1.flatMap rfL)):=U fun W hW=>by
  have q:=Xp (.slice AA x.all.length cA) (.slice AF x.flows.length cF) x 9223372036854775807 M W ((h.later hbu).later hW) hM1 hT1 hN hMM
  rw[<-hl1, <-hnA, <-hnF, <-hn1] at q
  exact q
 have HR2:Hid (∀W:World,Below u0.heap.size u0 W->Calls Tryz.prog 18 #[.agg #[.slice AA nA cA,.slice AF nF cF],.bool true,.int .u64 9223372036854775807] W fun e w'=>∃v',e= .returned v'/\Below W.heap.size W w'/\w'.ownsRow W.heap.size 53 4 v' n2 (l2.flatMap rfL)):=U fun W hW=>by
  have q:=Yz (.slice AA x.all.length cA) (.slice AF x.flows.length cF) x 9223372036854775807 M W ((h.later hbu).later hW) hM1 hT1 hN hMM
  rw[<-hl2, <-hnA, <-hnF, <-hn2] at q
  exact q
 have HR3:Hid (∀W:World,Below u0.heap.size u0 W->Calls Tryz.prog 19 #[.agg #[.slice AA nA cA,.slice AF nF cF],.int .u64 9223372036854775807] W fun e w'=>∃v',e= .returned v'/\Below W.heap.size W w'/\w'.ownsRow W.heap.size 53 4 v' n3 (l3.flatMap rfL)):=U fun W hW=>by
  have q:=rdue_any (.slice AA x.all.length cA) (.slice AF x.flows.length cF) x 9223372036854775807 M W ((h.later hbu).later hW) hM2 hT1 hN hMM
  rw[<-hl3, <-hnA, <-hnF, <-hn3] at q
  exact q
 have HLEN:Hid ((l1++l2++l3).length=n1+n2+n3):=U (by simp only[List.length_append];omega)
 rw[<-hnA, <-hnF]
 clear h hi hM1 hM2 hT hT1 hN hMM hl1 hl2 hl3 hb0 hI0 hbu hbu2 hiu hn1 hn2 hn3 hF1 hF2 hnA hnF
 replace hW0:=U hW0;replace hgb:=U hgb
 go_enter Tryz.func24,Tryz.ntmps24
 go_upto_region 1 with fail
 rw[<-hW0.out, <-hgb.out]
 refine wp_region_noPanic ?_
 refine wp_region_held_drew (S:=(fun W:World=>W.cell? ⟨gb,0,none⟩=some (.slice AA nA cA)/\W.cell? ⟨gb,1,none⟩=some (.slice AF nF cF))) O2 ?_ (fun hHeld0=> ?_)
 ·exact M158
 rw[<-hu0] at hHeld0
 rw[<-hu0]
 replace hu0:=U hu0
 refine tk 0 rfl ?_
 refine tk 2 rfl ?_
 refine tk 5 rfl ?_
 refine rd1 1 rfl fun K hK=> ?_
 go_simp
 (with_reducible refine(HR1.out _ HBu0.out).mono ?_)
 rintro e v1 ⟨v,rfl,hb,hown⟩
 obtain⟨o1A,o1c,rfl,-⟩:=DS hown
 have HBv1:Hid (Below u0.heap.size u0 v1):=U (HBu0.out.trans (hb.mono HBu0.out.size))
 have HXv1:=U hb
 have Ho1:=U hown
 clear hb hown
 go_wp2_with fail
 refine hK.out _ _ (HKS.out _ HBv1.out) (fun hHeld1=> ?_)
 clear hK K hHeld0
 try simp only[ap]
 refine rd1 3 rfl fun K hK=> ?_
 go_simp
 (with_reducible refine(HR2.out _ HBv1.out).mono ?_)
 rintro e v2 ⟨v,rfl,hb,hown⟩
 obtain⟨o2A,o2c,rfl,-⟩:=DS hown
 have HBv2:Hid (Below u0.heap.size u0 v2):=U (HBv1.out.trans (hb.mono HBv1.out.size))
 have HXv2:=U hb
 have Ho2:=U hown
 clear hb hown
 go_wp2_with fail
 refine hK.out _ _ (HKS.out _ HBv2.out) (fun hHeld2=> ?_)
 clear hK K hHeld1
 try simp only[ap]
 refine rd1 4 rfl fun K hK=> ?_
 refine Dd v2 rfl _ _ 51 53 rfl i0 _ 4 40 Tryz.underlying51 HSZ.out hi0 hz0 hz1 hz2 rfl O1 u0.heap.size (.slice o1A n1 o1c) (.slice o2A n2 o2c) n1 n2 (l1.flatMap rfL) (l2.flatMap rfL) rfl rfl (Fh Ho1.out HXv2.out) (CIn.of_own Ho2.out (FC _)) (by simp only[maxLen];omega) O0 HBv2.out.size ?_
 intro a4 v3 hown hgr
 have HBv3:Hid (Below u0.heap.size u0 v3):=U (Dg HBv2.out hgr (fun r hr=>((Fh Ho1.out HXv2.out).lt r hr).1) HBv2.out.size)
 have HGv3:=U hgr
 have Ha4:=U hown
 clear hown hgr
 refine hK.out _ _ (HKS.out _ HBv3.out) (fun hHeld3=> ?_)
 clear hK K hHeld2
 try simp only[ap]
 refine rd1 6 rfl fun K hK=> ?_
 go_simp
 (with_reducible refine(HR3.out _ HBv3.out).mono ?_)
 rintro e v4 ⟨v,rfl,hb,hown⟩
 obtain⟨o3A,o3c,rfl,-⟩:=DS hown
 have HBv4:Hid (Below u0.heap.size u0 v4):=U (HBv3.out.trans (hb.mono HBv3.out.size))
 have HXv4:=U hb
 have Ho3:=U hown
 clear hb hown
 go_wp2_with fail
 refine hK.out _ _ (HKS.out _ HBv4.out) (fun hHeld4=> ?_)
 clear hK K hHeld3
 try simp only[ap]
 refine rd1 7 rfl fun K hK=> ?_
 refine Dd v4 rfl _ _ 51 53 rfl i0 _ 4 40 Tryz.underlying51 HSZ.out hi0 hz0 hz1 hz2 rfl O1 u0.heap.size a4 (.slice o3A n3 o3c) (n1+n2) n3 ((l1.flatMap rfL)++(l2.flatMap rfL)) (l3.flatMap rfL) rfl rfl (Fh Ha4.out HXv4.out) (CIn.of_own Ho3.out (FC _)) (by simp only[maxLen];omega) O0 HBv4.out.size ?_
 intro a7 v5 hown hgr
 have HBv5:Hid (Below u0.heap.size u0 v5):=U (Dg HBv4.out hgr (fun r hr=>((Fh Ha4.out HXv4.out).lt r hr).1) HBv4.out.size)
 have HGv5:=U hgr
 have Ha7:=U hown
 clear hown hgr
 refine hK.out _ _ (HKS.out _ HBv5.out) (fun hHeld5=> ?_)
 clear hK K hHeld4
 try simp only[ap]
 obtain⟨Ar,cr,rfl,-⟩:=DS Ha7.out
 have HIN:Hid (CIn v5 (.slice Ar (n1+n2+n3) cr) (n1+n2+n3) 4 ((l1++l2++l3).flatMap rfL)):=U (by rw[List.flatMap_append,List.flatMap_append];exact CIn.of_own Ha7.out (by rw[<-List.flatMap_append, <-List.flatMap_append];exact FC _))
 have HBF:Hid (Below w.heap.size w v5):=U (HBU.out.trans (HBv5.out.mono HBU.out.size))
 refine tk 8 rfl ?_
 refine wpAnyH_done O2 ?_ _
 refine NoPanic.normal ?_
 clear hHeld5
 obtain⟨n,hn⟩:=Rm (n1+n2+n3)
 obtain⟨L,hL⟩:=Rm (l1++l2++l3)
 rw[<-hn] at HIN HLEN
 rw[<-hL] at HIN HLEN HATS
 rw[<-hn]
 have HNL:Hid (n=L.length):=U HLEN.out.symm
 have hnb:n<=900000000000:=O0
 clear hL hn hm1 hm2 hm3
 go_wp2_with fail
 go_loopw [7,8,9] (fun b f i wr=>∃(j:Nat) (o:Option Nat),i= .int .i64 j/\b= .int .u64 (o.getD 0:Nat)/\f= .bool o.isSome/\j<=n/\o=Sf now ((L.take j).map (·.at'))/\Below w.heap.size w wr/\CIn wr (.slice Ar n cr) n 4 (L.flatMap rfL)) (fun _ _ i _=>n-(intOf i).toNat)
 case atStart=>exact⟨0,none,by go_num,by go_num,rfl,Nat.zero_le _,rfl,HBF.out,HIN.out⟩
 case round=>
  obtain⟨j,o,rfl,rfl,rfl,hj,ho,hb,hin⟩:=hrel
  have HO:=U ho;have HB:=U hb;have HI:=U hin
  clear ho hb hin
  by_cases hlt:j<n
  ·have hltz : (j : Int) < (n : Int) := O0
   obtain⟨b,off,xf,xi,xn,xa,rfl,hr,hbl,y0,y1,y2,y3⟩:=GD HI.out HNL.out j hlt
   have HST:=U (Kg (now:=now) hr)
   dsimp only at HST
   rw[<-HO.out] at HST
   clear hr
   by_cases hq:now<xa
   ·have hqz : (now : Int) < (xa : Int) := O0
    have hqd:decide (now<xa)=true:=by simpa using hq
    cases o with
    | none=>
     rw[Yq hq] at HST
     simp only[Option.getD_none,Option.isSome_none]
     exact M145
    | some k=>
     simp only[Option.getD_some,Option.isSome_some]
     by_cases hk:xa<k
     ·rw [JI hq hk] at HST
      have hkz:(xa:Int)<(k:Int):=O0
      have hkd:decide (xa<k)=true:=by simpa using hk
      exact M145
     ·rw [JH hq hk] at HST
      have hkz:¬(xa:Int)<(k:Int):=O0
      have hkd:decide (xa<k)=false:=by simpa using hk
      go_wp2_with fail
      go_roundw
      case rel=>exact⟨j+1,some k,by go_num,by go_num,rfl,O0,HST.out.symm,HB.out,HI.out⟩
      case measure=>(simp[intOf];try omega)
   ·have hqz : ¬ (now : Int) < (xa : Int) := O0
    have hqd:decide (now<xa)=false:=by simpa using hq
    rw[JF hq] at HST
    go_wp2_with fail
    go_roundw
    case rel=>exact⟨j+1,o,by go_num,rfl,rfl,O0,HST.out.symm,HB.out,HI.out⟩
    case measure=>(simp[intOf];try omega)
  ·have hltz : ¬ (j : Int) < (n : Int) := O0
   obtain rfl:j=n:=O0
   have HNI:Hid (NextIs now (Ov x) o):=U (by
    rw[HO.out,HNL.out,List.take_length]
    have q:=Kh now (L.map (·.at'))
    revert q
    generalize Sf now (L.map (·.at'))=o'
    intro q
    cases o' with
    | none=>exact fun a ha=>q a ((HATS.out a).2 ha)
    | some k=>exact⟨(HATS.out k).1 q.1,q.2.1,fun a ha hn=>q.2.2 a ((HATS.out a).2 ha) hn⟩)
   have HBZ:Hid (Below w.heap.size w wr):=U HB.out
   go_wp2_with fail
   (try simp only[Exit.inBlock,Exit.then])
   refine bodyPost_ret (v:=Xd o) (by simp[Xd,results,Tryz.results24,go_sem]) rfl ?_
   exact⟨o,rfl,HNI.out,HBZ.out⟩):p:=h
theorem Nf (uA uF:Value)(x:XM)(now M:Nat)(w:World)(h:RIx w x uA uF)(hi:Sl x)(hM1:∀h∈x.flows,h.s.tasks.length<=M)(hM2:∀h∈x.flows,h.s.timers.length<=M)(hT:x.flows.length*M<=300000000000)(hN:x.flows.length<=1000000000000)(hMM:M<=1000000000000000) :
  Calls Tryz.prog 24 #[.agg #[uA,uF],.int .u64 (now:Nat)] w fun e w'=>∃o,e= .returned (Xd o)/\NextIs now (Ov x) o/\Below w.heap.size w w':=by
 obtain⟨i0,hi0,hz0,hz1,hz2⟩:=info_parts Tryz.infoRR
 have HSZ:=U (Od hi0 hz1)
 have hT1:x.flows.length*M<=1000000000000:=O0
 obtain⟨l1,hl1⟩:∃l,l=DJ false 9223372036854775807 x:=⟨_,rfl⟩
 obtain⟨l2,hl2⟩:∃l,l=DJ true 9223372036854775807 x:=⟨_,rfl⟩
 obtain⟨l3,hl3⟩:∃l,l=Oa 9223372036854775807 x:=⟨_,rfl⟩
 obtain⟨n1,hn1⟩:∃n,n=l1.length:=⟨_,rfl⟩
 obtain⟨n2,hn2⟩:∃n,n=l2.length:=⟨_,rfl⟩
 obtain⟨n3,hn3⟩:∃n,n=l3.length:=⟨_,rfl⟩
 have hm1:n1<=300000000000:=by rw[hn1,hl1];exact Nat.le_trans (rlen2 fun g hg=>Nat.le_trans (Gc false _ g) (hM1 g hg)) hT
 have hm2:n2<=300000000000:=by rw[hn2,hl2];exact Nat.le_trans (rlen2 fun g hg=>Nat.le_trans (Gc true _ g) (hM1 g hg)) hT
 have hm3:n3<=300000000000:=by rw[hn3,hl3];exact Nat.le_trans (rlen2 fun g hg=>Nat.le_trans (Ot _ g) (hM2 g hg)) hT
 have HATS:Hid (∀a,a∈(l1++l2++l3).map (·.at')↔a∈Ov x):=U (by
  rw[hl1,hl2,hl3]
  exact Lo fun a ha=>Nat.le_trans (XJ hi a ha) (Nat.le_of_eq rfl))
 obtain⟨⟨AA,cA,rfl,-,-⟩,AF,cF,rfl,hF1,hF2⟩:=h.slices
 open Q649 in exact M648
end Ta
end Go.Proofs.YtaahfiopdoinkaaGreat
namespace Go.Proofs.YtaahfiopdoinkaaGreat
namespace Ta
open _root_.Go.Proofs.YtaahfiopdoinkaaGreat.Nm (Dk De)
open Vt (Da)
open Cn (BT BtsIn Vj)
open Hi (HM XM RIx IBox XAt XGood Gw LIn Xw Gx Ds Df tot Ud CIn Dx DP Dq)
open Cm (rowOf)
attribute [local go_sem] Oper.semAt_some
variable {w w' : World}
theorem M30 (h:p:=by
 clear HLE HGAP
 go_wp2_with fail
 refine(HA.out _).mono ?_
 rintro r v0 ⟨rfl,hb⟩
 have HV0:Hid (Below W2.heap.size W2 v0):=U (HB4.out.trans (hb.mono HB4.out.size))
 clear hb
 go_wp2_with fail
 refine(HRN.out _ HV0.out).mono ?_
 rintro e v1 ⟨A1,k1,rfl,hb,hin,-⟩
 have HV1:Hid (Below W2.heap.size W2 v1):=U (HV0.out.trans (hb.mono HV0.out.size))
 have HI1:=U hin
 clear hb hin
 go_wp2_with fail
 refine(HRR.out _ HV1.out).mono ?_
 rintro e v2 ⟨A2,k2,rfl,hb,hin,-⟩
 have HV2:Hid (Below W2.heap.size W2 v2):=U (HV1.out.trans (hb.mono HV1.out.size))
 have HI2:=U hin
 have HI3:=U (HI1.out.later hb)
 clear hb hin HI1
 go_wp2_with fail
 refine(XA (DJ false now x) _ rfl A1 A2 k1 k2 _ HI3.out HI2.out HL1.out).mono ?_
 rintro e v3 ⟨rfl,hb⟩
 have HV3:Hid (Below W2.heap.size W2 v3):=U (HV2.out.trans (hb.mono HV2.out.size))
 clear hb HI2 HI3
 go_wp2_with fail
 refine(HEN.out _ HV3.out).mono ?_
 rintro e v4 ⟨A1,k1,rfl,hb,hin,-⟩
 have HV4:Hid (Below W2.heap.size W2 v4):=U (HV3.out.trans (hb.mono HV3.out.size))
 have HI1:=U hin
 clear hb hin
 go_wp2_with fail
 refine(HEE.out _ HV4.out).mono ?_
 rintro e v5 ⟨A2,k2,rfl,hb,hin,-⟩
 have HV5:Hid (Below W2.heap.size W2 v5):=U (HV4.out.trans (hb.mono HV4.out.size))
 have HI2:=U hin
 have HI3:=U (HI1.out.later hb)
 clear hb hin HI1
 go_wp2_with fail
 refine(XA (DJ true now x) _ rfl A1 A2 k1 k2 _ HI3.out HI2.out HL3.out).mono ?_
 rintro e v6 ⟨rfl,hb⟩
 have HV6:Hid (Below W2.heap.size W2 v6):=U (HV5.out.trans (hb.mono HV5.out.size))
 clear hb HI2 HI3
 go_wp2_with fail
 refine(HDN.out _ HV6.out).mono ?_
 rintro e v7 ⟨A1,k1,rfl,hb,hin,-⟩
 have HV7:Hid (Below W2.heap.size W2 v7):=U (HV6.out.trans (hb.mono HV6.out.size))
 have HI1:=U hin
 clear hb hin
 go_wp2_with fail
 refine(HDD.out _ HV7.out).mono ?_
 rintro e v8 ⟨A2,k2,rfl,hb,hin,-⟩
 have HV8:Hid (Below W2.heap.size W2 v8):=U (HV7.out.trans (hb.mono HV7.out.size))
 have HI2:=U hin
 have HI3:=U (HI1.out.later hb)
 clear hb hin HI1
 go_wp2_with fail
 refine(XA (Oa now x) _ rfl A1 A2 k1 k2 _ HI3.out HI2.out HL4.out).mono ?_
 rintro e v9 ⟨rfl,hb⟩
 have HV9:Hid (Below W2.heap.size W2 v9):=U (HV8.out.trans (hb.mono HV8.out.size))
 clear hb HI2 HI3
 have HBF:Hid (Below w0.heap.size w0 v9):=U (HBW.out.trans (HV9.out.mono HBW.out.size))
 go_wp2_with fail
 go_ret
 exact⟨rfl,HBF.out⟩):p:=h
theorem Ye (bl:List BT)(B:Option Addr)(bc:Nat)(now:Nat)(w0:World)(hB:BtsIn w0 B bc bl)(hlen:∀b∈bl,b.es.length<=2097152) :
  Calls Tryz.prog 7 #[.slice B bl.length bc,.int .u64 (now:Nat)] w0 fun r w'=>r= .returned (.bool true)/\Below w0.heap.size w0 w':=by
 have HBLD:=U (NP bl B bc w0 hB hlen)
 have HA:=U fun W=>JC W
 have HLEN:=U hlen
 clear hB hlen
 go_enter Tryz.func7,Tryz.ntmps7
 go_wp2_with fail
 refine HBLD.out.mono ?_
 rintro r w1 ⟨hb1,⟨xb,rfl⟩|⟨hfew,xb,g,g3,Z,uA,uF,rfl,HX,hZ,hri⟩⟩
 ·have HB1 := U hb1
  clear hb1
  go_wp2_with fail
  refine(HA.out _).mono ?_
  rintro r w3 ⟨rfl,hb3⟩
  have HB3:Hid (Below w0.heap.size w0 w3):=U ((HB1.out.alloc HB1.out.size _).trans (hb3.mono (by simp;exact Nat.le_succ_of_le HB1.out.size)))
  clear hb3
  go_wp2_with fail
  go_ret
  exact⟨rfl,HB3.out⟩
 have hli:=Xw hfew fun b hb=>by have:=HLEN.out b hb;omega
 have hgood:=Gx hli bl.length (Nat.le_refl _)
 rw[List.take_length] at hgood
 have htt:tot bl<=2097302:=by
  have:=(Ud 2097152 bl HLEN.out).2 (by have:=hfew.sum;omega)
  have:=hfew.sum
  omega
 have hN60:bl.length<=60:=hli.len
 have hxi:=Lx bl
 obtain⟨T,hT⟩:=Rm (tot bl)
 obtain⟨N,hN⟩:=Rm (bl.length)
 rw[<-hT] at htt
 rw[<-hN] at hN60
 rw[<-hT, <-hN] at hgood
 obtain⟨x,hx⟩:=Rm (Gw bl)
 rw[<-hx] at HX hri hgood hxi
 have hxl:x.flows.length<=60:=Nat.le_trans hgood.len hN60
 have HT3:Hid (x.flows.length*(T+1)<=300000000000):=U (Nat.le_trans (Nat.mul_le_mul_right (T+1) hxl) O0)
 have HTN:Hid (x.flows.length*(T+1)<=1000000000000):=U (Nat.le_trans HT3.out O0)
 have hri2:=hri.leads (Df _ _)
 have HFL:=U (flows_ok hri2)
 have hT1:T<=1100000000000:=O0
 have hT2:T+1<=1000000000000000:=O0
 have hT3:T<=1000000000000000000:=O0
 have hN1:x.flows.length<=1000000:=O0
 have hN2:x.flows.length<=1000000000000:=O0
 have HL1:=U (Uo hgood HTN.out false now)
 have HL3:=U (Uo hgood HTN.out true now)
 have HL4:=U (dueX_len hgood HTN.out now)
 have HTK:=U (PW hgood)
 have HTM:=U (Pm hgood)
 have HG:=U hgood;have HXI:=U hxi
 have HMX:Hid (∀a∈Ov x,a<=9223372036854775807):=U (XJ hxi)
 obtain⟨⟨AA,cA,rfl,-,-⟩,AF,cF,rfl,-,-⟩:=hri.slices
 obtain⟨W2,hW2⟩:=Rm (w1.alloc (.cells #[.slice AA x.all.length cA,.slice AF x.flows.length cF] 27))
 obtain⟨g8,hg8⟩:∃g,g=w1.heap.size:=⟨_,rfl⟩
 have hb12:Below w1.heap.size w1 W2:=by rw[hW2];exact Rl
 have hi2:IBox W2 g8 (.slice AA x.all.length cA) (.slice AF x.flows.length cF):=by rw[hW2,hg8];exact IBox.new ..
 have HBW:Hid (Below w0.heap.size w0 W2):=U (hb1.trans (hb12.mono hb1.size))
 have HXU:=U (HX.later hb12)
 have HRU:=U (hri2.later hb12)
 have HI2:=U hi2
 have HRN:=U fun W (hW:Below W2.heap.size W2 W)=>Oh (HXU.out.later hW) hgood hT1 hN1 HTN.out HFL.out now _ (Fu hgood hT3 HFL.out HTN.out false now)
 have HEN:=U fun W (hW:Below W2.heap.size W2 W)=>Pd (HXU.out.later hW) hgood hT1 hN1 HTN.out HFL.out now _ (Fu hgood hT3 HFL.out HTN.out true now)
 have HDN:=U fun W (hW:Below W2.heap.size W2 W)=>Ue (HXU.out.later hW) hgood hT1 hN1 HTN.out HFL.out now _ (Pn hgood hT3 HFL.out HTN.out now)
 clear HX hZ hri hri2 hgood hfew hli hb1 hb12 hi2 hx hT hN htt hN60 hxl hxi HBLD HLEN
 replace hW2:=U hW2;replace hg8:=U hg8
 go_upto_region 4 with fail
 rw[<-hW2.out]
 go_wp2_with fail
 refine(LC HXU.out HG.out HXI.out hT1 hN1 HT3.out HFL.out now).mono ?_
 rintro e w3 ⟨o,rfl,hnx,hb3⟩
 obtain⟨x0,x1,-⟩:=(HI2.out.later hb3 HI2.out.lt).cells
 rw[hg8.out] at x0 x1
 have HB3:=U hb3;have HNX:=U hnx
 have HG8:Hid (w1.heap.size<w3.heap.size):=U (by have:=HI2.out.lt;have:=hb3.size;have:=hg8.out;omega)
 clear hb3 hnx
 unfold Xd
 go_wp2_with fail
 refine(Nf _ _ x now (T+1) _ (HRU.out.later HB3.out) HXI.out HTK.out HTM.out HT3.out hN2 hT2).mono ?_
 rintro e w4 ⟨o',rfl,hnx,hb4⟩
 obtain rfl:=NextIs.unique HNX.out hnx fun _=>Iff.rfl
 have HB4:Hid (Below W2.heap.size W2 w4):=U (HB3.out.trans (hb4.mono HB3.out.size))
 have HBE:Hid (Below w0.heap.size w0 w4):=U (HBW.out.trans (HB4.out.mono HBW.out.size))
 clear hb4 hnx x0 x1
 unfold Xd
 cases o with
 | none=>
  simp only[Option.getD_none,Option.isSome_none]
  by_cases hle:now<=9223372036854775807
  ·have hlt : ¬ (9223372036854775807 : Int) < (now : Int) := O0
   have HLE:=U hle
   have HGAP:Hid (∀a∈Ov x,now<a->9223372036854775807<a):=U (YL HMX.out HNX.out)
   clear hle HNX
   have HRR:Hid (∀W:World,Below W2.heap.size W2 W->Calls Tryz.prog 14 #[.pointer (some ⟨xb,0,none⟩),.int .u64 9223372036854775807] W (RefsOut W (DJ false now x))):=U fun W hW=>by
    have hs:=Fu HG.out hT3 HFL.out HTN.out false 9223372036854775807
    rw[<-GM false HLE.out HGAP.out] at hs
    exact Oh (HXU.out.later hW) HG.out hT1 hN1 HTN.out HFL.out 9223372036854775807 _ hs
   have HEE:Hid (∀W:World,Below W2.heap.size W2 W->Calls Tryz.prog 21 #[.pointer (some ⟨xb,0,none⟩),.int .u64 9223372036854775807] W (RefsOut W (DJ true now x))):=U fun W hW=>by
    have hs:=Fu HG.out hT3 HFL.out HTN.out true 9223372036854775807
    rw[<-GM true HLE.out HGAP.out] at hs
    exact Pd (HXU.out.later hW) HG.out hT1 hN1 HTN.out HFL.out 9223372036854775807 _ hs
   have HDD:Hid (∀W:World,Below W2.heap.size W2 W->Calls Tryz.prog 15 #[.pointer (some ⟨xb,0,none⟩),.int .u64 9223372036854775807] W (RefsOut W (Oa now x))):=U fun W hW=>by
    have hs:=Pn HG.out hT3 HFL.out HTN.out 9223372036854775807
    rw[<-VW HLE.out HGAP.out] at hs
    exact Ue (HXU.out.later hW) HG.out hT1 hN1 HTN.out HFL.out 9223372036854775807 _ hs
   exact M30
  ·have hlt : (9223372036854775807 : Int) < (now : Int) := O0
   clear hle
   go_wp2_with fail
   refine(HA.out _).mono ?_
   rintro r w9 ⟨rfl,hb9⟩
   have HB9:Hid (Below w0.heap.size w0 w9):=U (HBE.out.trans (hb9.mono HBE.out.size))
   clear hb9
   go_wp2_with fail
   go_ret
   exact⟨rfl,HB9.out⟩
 | some k=>
  simp only[Option.getD_some,Option.isSome_some]
  obtain⟨hk1,hk2,-⟩:=HNX.out
  have hkm:=HMX.out k hk1
  obtain⟨last,hlast⟩:=Rm (k-1)
  have hw:IntKind.u64.wrap ((k:Int)-1)=(last:Int):=by rw[IntKind.wrap_u64];omega
  have hlt:¬(last:Int)<(now:Int):=O0
  have HLE:Hid (now<=last):=U O0
  have HGAP:Hid (∀a∈Ov x,now<a->last<a):=U (by rw[hlast];exact YL HMX.out HNX.out)
  clear hk1 hk2 hkm hlast HNX
  have HRR:Hid (∀W:World,Below W2.heap.size W2 W->Calls Tryz.prog 14 #[.pointer (some ⟨xb,0,none⟩),.int .u64 (last:Nat)] W (RefsOut W (DJ false now x))):=U fun W hW=>by
   have hs:=Fu HG.out hT3 HFL.out HTN.out false last
   rw[<-GM false HLE.out HGAP.out] at hs
   exact Oh (HXU.out.later hW) HG.out hT1 hN1 HTN.out HFL.out last _ hs
  have HEE:Hid (∀W:World,Below W2.heap.size W2 W->Calls Tryz.prog 21 #[.pointer (some ⟨xb,0,none⟩),.int .u64 (last:Nat)] W (RefsOut W (DJ true now x))):=U fun W hW=>by
   have hs:=Fu HG.out hT3 HFL.out HTN.out true last
   rw[<-GM true HLE.out HGAP.out] at hs
   exact Pd (HXU.out.later hW) HG.out hT1 hN1 HTN.out HFL.out last _ hs
  have HDD:Hid (∀W:World,Below W2.heap.size W2 W->Calls Tryz.prog 15 #[.pointer (some ⟨xb,0,none⟩),.int .u64 (last:Nat)] W (RefsOut W (Oa now x))):=U fun W hW=>by
   have hs:=Pn HG.out hT3 HFL.out HTN.out last
   rw[<-VW HLE.out HGAP.out] at hs
   exact Ue (HXU.out.later hW) HG.out hT1 hN1 HTN.out HFL.out last _ hs
  exact M30
open Go.ChangeShapes Go.WideShapes Go.ChangeAt Go.Joins Go.Deep
theorem tnexts_open {H : Type} {enc : TypeId × Value -> H} {base b1 : Nat} {spare : Nat -> Bool} {held : Bool} {d0 d1 : DataW H} {p0 p1 : List MemPlace} (v0 v1 : Value) (W : World)
  (o0:Value.okWide Tryz.prog W .any base 22 v0) (k0:DataW.Trod enc Tryz.prog W b1 spare held 22 v0 d0 p0)
  (o1:Value.okWide Tryz.prog W .any base 23 v1) (k1:DataW.Trod enc Tryz.prog W b1 spare held 23 v1 d1 p1) (hu:Rows.uptoSmall H [d0,d1]=true) :
  Calls Tryz.prog 7 #[v0,v1] W fun r w'=>r= .returned (.bool true)/\Below W.heap.size W w':=by
 obtain⟨bl,A,cap,rfl,hB,hl⟩:=Hi.NQ v0 W o0 k0
 obtain⟨n,rfl⟩:=okWide_int Tryz.underlying23 o1
 obtain⟨fuel,hf⟩:=k1
 obtain⟨m,e1,-,w1⟩:=DataW.trod_int Tryz.underlying23 hf
 have e1 : [Value.int .u64 n]= [Value.int .u64 m]:=e1
 injection e1 with e1
 injection e1 with _ e1
 subst e1
 simp[Lit.wf,IntKind.min,IntKind.max,IntKind.bits,IntKind.signed] at w1
 obtain⟨k,hk⟩:∃k:Nat,n=(k:Nat):=⟨n.toNat,O0⟩
 subst hk
 exact Ye bl A cap k W hB (hl (Hi.LV (i:=0) hu rfl))
end Ta
end Go.Proofs.YtaahfiopdoinkaaGreat
