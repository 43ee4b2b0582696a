/- The reference's index: Add. -/
import Derived.Laws.Rows
import Derived.Laws.IdiomRangeMap
import Derived.Test.YtaahfiopdoinkaaGreatTwaq
import Derived.Test.YtaahfiopdoinkaaGreatTwba
import Derived.Test.YtaahfiopdoinkaaGreatTwat
import Derived.Test.YtaahfiopdoinkaaGreatTwaz
import Derived.Test.YtaahfiopdoinkaaGreatTwau
import Derived.Test.YtaahfiopdoinkaaGreatTwaw
import Derived.Test.YtaahfiopdoinkaaGreatTwal
import Derived.Test.YtaahfiopdoinkaaGreatTwaj
import Derived.Test.YtaahfiopdoinkaaGreatRows
import Derived.Test.YtaahfiopdoinkaaGreatTwag
import Derived.Lib.SliceRun
set_option maxRecDepth 100000
set_option maxHeartbeats 4000000
variable {p : Prop}
set_option linter.unusedVariables false
set_option linter.unusedSimpArgs false
open Go.RowKit
namespace Go.Proofs.YtaahfiopdoinkaaGreat
namespace Hi
open _root_.Go.Proofs.YtaahfiopdoinkaaGreat.Nm (Dk De)
open _root_.Go.Proofs.YtaahfiopdoinkaaGreat.Rd (Sd)
open Vt (VT Rep Da)
open Ev (EV Dj Db Dn take_drop tk ap rd1 rd2 Dh)
open Cm (rowOf EvsIn)
open Cn (BT BB BtsIn Dy)
variable {X X' Y Y' : Nat -> Prop} {u v w w' V V' : World} {cap : Nat} {A : Option Addr} {x : XM} {b : BT}
theorem Tryz.infoRh : (Tryz.prog.info? 84).map (fun i=>(i.zero,i.size,i.bytes))=some (some (.agg #[.string ⟨#[]⟩,.slice none 0 0,.int .i64 0,.int .u64 0,.slice none 0 0,.slice none 0 0,.slice none 0 0]),7,128):=O2
theorem addX_2 (h:Dy b.flow b.at' b.es=false):(DD x b).1=2:=by unfold DD;rw[if_pos h]
theorem addX_12 (h:Dy b.flow b.at' b.es=true)(h2:b.at'<x.clock):(DD x b).1=12:=by unfold DD;rw[if_neg (by rw[h];decide),if_pos h2]
theorem addX_m (h:Dy b.flow b.at' b.es=true)(h2:¬b.at'<x.clock)(h3:(Du (DI x b.flow) b).1≠0):(DD x b).1=(Du (DI x b.flow) b).1:=by unfold DD;rw[if_neg (by rw[h];decide),if_neg h2,if_pos h3]
theorem addX_0 (h : Dy b.flow b.at' b.es = true) (h2 : ¬ b.at' < x.clock) (h3 : (Du (DI x b.flow) b).1 = 0) : (DD x b).1 = 0 /\ (DD x b).2.all = x.all ++ [b] /\ (DD x b).2.flows = (match Dr x.flows b.flow with | some k => x.flows.set k (Du (DI x b.flow) b).2 | none => x.flows ++ [(Du (DI x b.flow) b).2]) := by
 unfold DD
 rw[if_neg (by rw[h];decide),if_neg h2,if_neg (fun q=>q h3)]
 cases Dr x.flows b.flow<;>exact⟨rfl,rfl,rfl⟩
def Ls (X:Nat->Prop)(x:XM)(b:BT)(w:World)(r:Ending)(w':World):Prop:=Below w.heap.size w w'/\∃uA uF,r= .returned (.tuple #[.agg #[uA,uF],.int .i64 (DD x b).1])/\RIx (Ds X w') (DD x b).2 uA uF
theorem OF {base k n cap g j:Nat}{T:TypeId}{xs:List Value}(h:w.ownsRow base T k (.slice (some ⟨g,0,none⟩) n cap) n xs)(v:Value):(w.setCell ⟨g,j,none⟩ v).ownsRow base T k (.slice (some ⟨g,0,none⟩) n cap) n (xs.set j v):=by
 rcases h.2 with ⟨h1,h2⟩|⟨g',cap',cur,e,q2,q3,q4,q5,q6,q7⟩
 ·cases h1
 ·cases e
  refine⟨by rw[List.length_set];exact h.1,.inr ⟨g,cap,cur.setIfInBounds j v,rfl,q2,?_,q4,q5,by simpa using q6,?_⟩⟩
  ·simp[World.setCell,Array.getElem?_modify,q3]
  ·rw[<-q7];simp[List.take_set]
theorem YI {base k n cap g j:Nat}{T:TypeId}{xs:List Value}(h:w.ownsRow base T k (.slice (some ⟨g,0,none⟩) n cap) n xs):w.frozen? ⟨g,j,none⟩=false/\base<=g:=by
 rcases h.2 with ⟨h1,h2⟩|⟨g',cap',cur,e,q2,q3,q4,q5,q6,q7⟩
 ·cases h1
 ·cases e
  exact⟨by simp[World.frozen?,q3],q2⟩
theorem own_cell {base k n cap g p:Nat}{T:TypeId}{xs:List Value}{y:Value}(h:w.ownsRow base T k (.slice (some ⟨g,0,none⟩) n cap) n xs)(hy:xs[p]?=some y):w.cell? ⟨g,p,none⟩=some y:=by
 rcases h.2 with ⟨h1,h2⟩|⟨g',cap',cur,e,q2,q3,q4,q5,q6,q7⟩
 ·cases h1
 ·cases e
  have hlt:=(List.getElem?_eq_some_iff.1 hy).1
  rw[h.1] at hlt
  rw[<-q7,List.getElem?_take_of_lt hlt,Array.getElem?_toList] at hy
  simp[World.cell?,q3,hy]
theorem OP {P:Value->Prop}{l:List Value}{i:Nat}{y:Value}(h:∀z∈l,P z)(hy:P y):∀z∈l.set i y,P z:=fun z hz=>(List.mem_or_eq_of_mem_set hz).elim (h z) fun e=>e ▸ hy
theorem rhsC_set {xs:List Value}{fl:List HM}(h:RHsC V xs fl)(i:Nat)(hi:i<fl.length)(g:HM)(hg:g.flow.size<=maxLen){ub uk ut um:Value}(hr:RH V g ub uk ut um) :
  RHsC V (((((((xs.set (i*7) (.string g.flow)).set (i*7+1) ub).set (i*7+2) (.int .i64 g.s.closed)).set (i*7+3) (.int .u64 (g.s.next:Nat))).set (i*7+4) uk).set (i*7+5) ut).set (i*7+6) um) (fl.set i g):=by
 have h1:=h.1
 refine⟨by simp only[List.length_set];exact h1,fun j hj=> ?_⟩
 rw[List.length_set] at hj
 by_cases e:j=i
 ·subst e
  simp only[List.getElem_set_self]
  refine⟨hg,ub,uk,ut,um,hr,fun q hq=> ?_⟩
  have hlt:j*7+6<xs.length:=O0
  rcases (show q=0\/q=1\/q=2\/q=3\/q=4\/q=5\/q=6 by omega) with rfl|rfl|rfl|rfl|rfl|rfl|rfl<;>(simp only[Nat.add_zero,List.getElem?_set,List.length_set];simp[rhC];omega)
 ·rw [List.getElem_set_ne (fun q => e q.symm)]
  obtain⟨q0,ub',uk',ut',um',q1,q2⟩:=h.2 j hj
  refine⟨q0,ub',uk',ut',um',q1,fun q hq=> ?_⟩
  rw[<-q2 q hq]
  repeat rw[List.getElem?_set_ne O0]
theorem Q401.Y397 (h:p:=by
 refine tk 8 rfl ?_
 obtain⟨cx,fx,tx,fy,ty⟩:=HCX.out cF HBF.out
 refine rd1 9 rfl fun K hK=> ?_
 go_simp
 refine hK.out _ _ (HKS2.out _ _ _ HBF.out) (fun hHeldZ=> ?_)
 clear hK K hH01ABL
 try simp only[ap]
 refine tk 10 rfl ?_
 refine wpAnyH_done O2 ?_ _
 refine NoPanic.normal ?_
 clear hHeldZ cx fx fy
 go_wp2_with fail
 refine bodyPost_ret (v:= .tuple #[.agg #[.slice Ar (nA+1) cr,.slice R N9 cR],.int .i64 0]) (by simp[results,Tryz.results28,go_sem,tx,ty]) rfl ?_
 exact HOUT.out cF Ar cr HOF.out HBRF.out HBF.out):p:=h
theorem M37 (h:p:=by
 try simp only[ap]
 refine rd1 6 rfl fun K hK=> ?_
 refine Dd zw01A rfl _ _ 22 64 rfl i0 _ 3 48 Tryz.underlying22 HSZ.out hi0 hz0 hz1 hz2 rfl O1 u0.heap.size v1 (.slice (some ⟨ib,0,none⟩) 1 1) nA 1 xsA (#[Value.string ff,.int .u64 (at':Nat),.slice A m cap]:Array Value).toList rfl rfl own1_01A.out one_01A.out (by simp only[maxLen];omega) O0 HB01A.out.size ?_
 open Q401 in exact M397):p:=h
theorem Q396.Y392 (h:p:=by
 clear hK K hH01L
 exact M37):p:=h
theorem M9 (h:p:=by
 refine rd1 3 rfl fun K hK=> ?_
 refine Dd zw01 rfl _ _ 22 64 rfl i0 _ 3 48 Tryz.underlying22 HSZ.out hi0 hz0 hz1 hz2 rfl O1 u0.heap.size (.slice (some ⟨ia,0,none⟩) 0 0) (.slice AA nA cA) 0 nA [] xsA rfl rfl own0_01.out (HIN.out _ HB01.out) (by simp only[maxLen];omega) O0 HB01.out.size ?_
 open Q396 in exact M392):p:=h
theorem Q588.Y584 (h:p:=by
 clear hK K hH0AL
 exact M37):p:=h
theorem Q418.Y414 (h:p:=by
 have one_01A:Hid (CIn zw01A (.slice (some ⟨ib,0,none⟩) 1 1) 1 3 (#[Value.string ff,.int .u64 (at':Nat),.slice A m cap]:Array Value).toList):=U (by rw[hc01A,hib];exact CIn.new zw0A _ _ rfl HONE.out)
 open Q588 in exact M584):p:=h
theorem Q367.Y361 (h:p:=by
 refine rd1 5 rfl fun K hK=> ?_
 go_simp
 obtain⟨zw01A,hc01A⟩:∃u,u=zw0A.alloc (.cells (#[Value.string ff,.int .u64 (at':Nat),.slice A m cap]:Array Value) 64):=⟨_,rfl⟩
 open Q418 in exact M414):p:=h
theorem Q426.Y419 (h:p:=by
 refine hK.out _ _ (HKS.out _ HB01.out) (fun hH01L=> ?_)
 clear hK K hH0L
 try simp only[ap]
 exact M9):p:=h
theorem Q336.Y329 (h:p:=by
 have one_01:Hid (CIn zw01 (.slice (some ⟨ib,0,none⟩) 1 1) 1 3 (#[Value.string ff,.int .u64 (at':Nat),.slice A m cap]:Array Value).toList):=U (by rw[hc01,hib];exact CIn.new zw0 _ _ rfl HONE.out)
 open Q426 in exact Jr):p:=h
theorem M19 (h:p:=by
 refine rd2 3 5 rfl rfl (fun K hK=> ?_) fun K hK=> ?_
 ·refine Dd zw0 rfl _ _ 22 64 rfl i0 _ 3 48 Tryz.underlying22 HSZ.out hi0 hz0 hz1 hz2 rfl O1 u0.heap.size (.slice (some ⟨ia, 0, none⟩) 0 0) (.slice AA nA cA) 0 nA [] xsA rfl rfl own0_0.out (HIN.out _ HB0.out) (by simp only [maxLen]; omega) O0 HB0.out.size ?_
  open Q367 in exact Ri
 ·go_simp
  obtain⟨zw01,hc01⟩:∃u,u=zw0.alloc (.cells (#[Value.string ff,.int .u64 (at':Nat),.slice A m cap]:Array Value) 64):=⟨_,rfl⟩
  open Q336 in exact Jt):p:=h
theorem Q307.Y305 (h:p:=by
 refine hK.out _ _ (HKS.out _ HB01.out) (fun hH01L=> ?_)
 clear hK K hH1L
 try simp only[ap]
 exact M9):p:=h
theorem M45 (h:p:=by
 refine rd1 0 rfl fun K hK=> ?_
 open Q307 in exact M305):p:=h
theorem Q548.Y544 (h:p:=by
 clear cx
 exact M9):p:=h
theorem M124 (h:p:=by
 open Q548 in exact M544):p:=h
theorem Q601.Y595 (h:p:=by
 clear cx
 exact M19):p:=h
theorem Q427.Y419 (h:p:=by
 refine hK.out _ _ (HKS.out _ HB01.out) (fun hH01=> ?_)
 clear hK K hH0
 exact M124):p:=h
theorem Q337.Y329 (h:p:=by
 have one_01:Hid (CIn zw01 (.slice (some ⟨ib,0,none⟩) 1 1) 1 3 (#[Value.string ff,.int .u64 (at':Nat),.slice A m cap]:Array Value).toList):=U (by rw[hc01,hib];exact CIn.new zw0 _ _ rfl HONE.out)
 open Q427 in exact Jr):p:=h
theorem Q497.Y494 (h:p:=by
 refine hK.out _ _ (HKS.out _ HB0.out) (fun hH0=> ?_)
 clear hK K hHeld
 try simp only[ap]
 refine rd2 2 5 rfl rfl (fun K hK=> ?_) fun K hK=> ?_
 ·open Q601 in exact Rg
 ·go_simp
  obtain⟨zw01,hc01⟩:∃u,u=zw0.alloc (.cells (#[Value.string ff,.int .u64 (at':Nat),.slice A m cap]:Array Value) 64):=⟨_,rfl⟩
  open Q337 in exact Jt):p:=h
theorem Q270.Y264 (h:p:=by
 open Q497 in exact M494):p:=h
theorem Q498.Y494 (h:p:=by
 refine hK.out _ _ (HKS.out _ HB0.out) (fun hH0L=> ?_)
 clear hK K hHL
 try simp only[ap]
 exact M19):p:=h
theorem Q271.Y264 (h:p:=by
 open Q498 in exact M494):p:=h
theorem Q309.Y305 (h:p:=by
 refine hK.out _ _ (HKS.out _ HB01.out) (fun hH01=> ?_)
 clear hK K hH1
 exact M124):p:=h
theorem Q746.Y742 (h:p:=by
 try simp only[ap]
 exact M45):p:=h
theorem Q359.Y352 (h:p:=by
 have one_1:Hid (CIn zw1 (.slice (some ⟨ib,0,none⟩) 1 1) 1 3 (#[Value.string ff,.int .u64 (at':Nat),.slice A m cap]:Array Value).toList):=U (by rw[hc1,hib];exact CIn.new u0 _ _ rfl HONE.out)
 open Q746 in exact M742):p:=h
theorem Q680.Y676 (h:p:=by
 clear cx
 exact M45):p:=h
theorem Q697.Y693 (h:p:=by
 refine rd2 0 2 rfl rfl (fun K hK=> ?_) fun K hK=> ?_
 ·open Q309 in exact M305
 ·open Q680 in exact M676):p:=h
theorem Q360.Y352 (h:p:=by
 have one_1:Hid (CIn zw1 (.slice (some ⟨ib,0,none⟩) 1 1) 1 3 (#[Value.string ff,.int .u64 (at':Nat),.slice A m cap]:Array Value).toList):=U (by rw[hc1,hib];exact CIn.new u0 _ _ rfl HONE.out)
 open Q697 in exact M693):p:=h
theorem Q569.Y563 (h:p:=by
 refine rd2 0 5 rfl rfl (fun K hK=> ?_) fun K hK=> ?_
 ·go_simp
  obtain⟨zw0,hc0⟩:∃u,u=u0.alloc (.cells #[] 64):=⟨_,rfl⟩
  open Q271 in exact KP
 ·go_simp
  obtain⟨zw1,hc1⟩:∃u,u=u0.alloc (.cells (#[Value.string ff,.int .u64 (at':Nat),.slice A m cap]:Array Value) 64):=⟨_,rfl⟩
  open Q359 in exact Js):p:=h
theorem Q450.Y449 (h:p:=by
 clear k5 k5n KS HCK
 have HCF:Hid (Calls Tryz.prog 31 #[.agg #[.slice AA nA cA,.slice AF nF cF],.string ff] w5 fun r w'=>r= .returned (.int .i64 (OS x.flows ff))/\Below w5.heap.size w5 w'):=U (VK x _ _ ff w5 (HH.out w5 HB5.out))
 obtain⟨fi,hfi⟩:=Rm (OS x.flows ff)
 rw[<-hfi] at HCF
 have HFI:=U hfi
 clear hfi
 obtain⟨x0,x1,-⟩:=(HX.out w5 HB5.out).1.cells
 obtain⟨y0,y1,y2,-⟩:=(HX.out w5 HB5.out).2.1.cells
 go_wp2_with fail
 refine HCF.out.mono ?_
 rintro r w6 ⟨rfl,hb6⟩
 have HB6:Hid (Below W0.heap.size W0 w6):=U (HB5.out.trans (hb6.mono HB5.out.size))
 clear hb6 HCF
 clear x0 x1
 clear y0 y1 y2
 obtain⟨y0,y1,y2,-⟩:=(HX.out w6 HB6.out).2.1.cells
 go_wp2_with fail
 refine(rnew_any ff w6).mono ?_
 rintro r w7 ⟨rfl,hb7⟩
 have hb07:Below W0.heap.size W0 w7:=HB6.out.trans (hb7.mono HB6.out.size)
 clear y0 y1 y2
 obtain⟨g3,hg3⟩:∃g,g=w7.heap.size:=⟨_,rfl⟩
 obtain⟨W8,hW8⟩:=Rm (w7.alloc (.cells #[.string ff,.slice none 0 0,.int .i64 0,.int .u64 1,.slice none 0 0,.slice none 0 0,.slice none 0 0] 84))
 have HB8:Hid (Below W0.heap.size W0 W8):=U (by rw[hW8];exact hb07.alloc hb07.size _)
 have HR8:Hid (RX W8 g3 ff (.slice none 0 0) 0 1 (.slice none 0 0) (.slice none 0 0) (.slice none 0 0)):=U (by rw[hW8,hg3];exact heap_alloc_new w7 _)
 have HG3:Hid (W0.heap.size<=g3):=U (by rw[hg3];exact hb07.size)
 clear hb7 hb07
 have HGG3:=U hg3;have HW8:=U hW8
 clear hg3 hW8
 unfold rhC
 go_upto_if 28 with fail
 rw[<-HW8.out, <-HGG3.out]
 clear HW8 HGG3
 have HXL:Hid (∀W,Below W0.heap.size W0 W->Leads (Ds X w) (Ds (fun c=>X c\/c=w.heap.size+1+1\/c=g3) W)):=U fun W hW=>Dp (HBW.out W hW).size fun c hc hx=>⟨fun q=>by
  rcases q with q|q|q
  ·exact hx q
  ·omega
  ·have:=HG3.out;have:=HS0.out;omega,(HBW.out W hW).block c hc⟩
 obtain⟨hx,hhx⟩:=Rm (DI x b.flow)
 rw[<-hhx] at HGH HHF
 have HHX:=U hhx
 clear hhx
 go_cut [] from 10 (fun wx=>Below W0.heap.size W0 wx/\∃ub uk ut um,RX wx g3 ff ub hx.s.closed hx.s.next uk ut um/\RH (Ds (fun c=>X c\/c=w.heap.size+1+1\/c=g3) wx) hx ub uk ut um)
 case first =>
  cases hfx:Dr x.flows ff with
  | none=>
   have hfi:fi= -1:=by rw[HFI.out];unfold OS;rw[hfx]
   have HOUT:Hid (Below W0.heap.size W0 W8/\∃ub uk ut um,RX W8 g3 ff ub hx.s.closed hx.s.next uk ut um/\RH (Ds (fun c=>X c\/c=w.heap.size+1+1\/c=g3) W8) hx ub uk ut um):=U (by
    have e:hx=HM.new ff:=by rw[HHX.out, <-HFF.out];exact PL hfx
    rw[e]
    exact⟨HB8.out,_,_,_,_,HR8.out,rh_new _ ff⟩)
   clear hfx
   subst hfi
   have k1:decide ((0:Int)<=(-1:Int))=false:=rfl
   go_wp2_with fail
   go_meet
   exact HOUT.out
  | some i=>
   have hfi:fi=(i:Nat):=by rw[HFI.out];unfold OS;rw[hfx]
   obtain⟨hil,hif,-⟩:=DL hfx
   have he:hx=x.flows[i]:=by
    have e:=PK (x:=x) (f:=b.flow) (by rw[<-HFF.out];exact hfx) (List.getElem?_eq_getElem hil)
    rw[HHX.out];exact e
   obtain⟨xsV,hcinV,hcV⟩:=HV0.out.flows
   obtain⟨-,ub,uk,ut,um,hrhV,hq⟩:=hcV.2 i hil
   obtain⟨-,-,A9,c9,e9,-,-,hrd⟩:=hcinV
   rw[<-HNF.out] at e9
   obtain⟨rfl,rfl⟩:AF=A9/\cF=c9:=by injection e9 with a1 a2 a3;exact⟨a1,a3⟩
   obtain⟨rb,off,rfl,hblV,hr⟩:=hrd O0
   have hbl:rb<w.heap.size:=by rw[<-DM X w];exact hblV
   rw[<-he] at hrhV hq
   obtain⟨⟨Bu,nu,cu,rfl⟩,⟨Ak,nk,ck,rfl⟩,⟨Aq,nt,ct,rfl⟩,⟨Am,nm,cm,rfl⟩⟩:=hrhV.slices
   have d:∀q (hq7:q<7) v,(rhC hx.flow (.slice Bu nu cu) hx.s.closed hx.s.next (.slice Ak nk ck) (.slice Aq nt ct) (.slice Am nm cm))[q]?=some v->W8.cell? ⟨rb,off+i*7+q,none⟩=some v:=fun q hq7 v hv=>by
    have:=hr (i*7+q) v (by rw[hq q hq7];exact hv)
    rw[<-Nat.add_assoc] at this
    exact((HBW.out W8 HB8.out).cell (p:=⟨rb,off+i*7+q,none⟩) hbl).trans ((Df X w).cell this)
   have hflx:hx.flow=ff:=by rw[HHF.out,HFF.out]
   have d0:=d 0 O0 (.string hx.flow) rfl;have d1:=d 1 O0 (.slice Bu nu cu) rfl;have d2:=d 2 O0 (.int .i64 hx.s.closed) rfl;have d3:=d 3 O0 (.int .u64 (hx.s.next:Nat)) rfl;have d4:=d 4 O0 (.slice Ak nk ck) rfl;have d5:=d 5 O0 (.slice Aq nt ct) rfl;have d6:=d 6 O0 (.slice Am nm cm) rfl
   rw[Nat.add_zero,hflx] at d0
   obtain⟨W9,hW9⟩:=Rm (((((((W8.setCell ⟨g3,0,none⟩ (.string ff)).setCell ⟨g3,1,none⟩ (.slice Bu nu cu)).setCell ⟨g3,2,none⟩ (.int .i64 hx.s.closed)).setCell ⟨g3,3,none⟩ (.int .u64 (hx.s.next:Nat))).setCell ⟨g3,4,none⟩ (.slice Ak nk ck)).setCell ⟨g3,5,none⟩ (.slice Aq nt ct)).setCell ⟨g3,6,none⟩ (.slice Am nm cm))
   have HOUT:Hid (Below W0.heap.size W0 W9/\∃ub uk ut um,RX W9 g3 ff ub hx.s.closed hx.s.next uk ut um/\RH (Ds (fun c=>X c\/c=w.heap.size+1+1\/c=g3) W9) hx ub uk ut um):=U (by
    have hb9:Below W0.heap.size W0 W9:=by rw[hW9];exact Fk (g:=g3) HB8.out HG3.out _ _ _ _ _ _ _
    refine⟨hb9,_,_,_,_,?_,hrhV.leads (HXL.out W9 hb9)⟩
    rw[hW9];exact HR8.out.seven)
   have HW9:=U hW9
   have hni:i<nF:=by have:=HNF.out;omega
   obtain⟨x0,x1,-⟩:=(HX.out W8 HB8.out).1.cells
   obtain⟨z0,z1,z2,z3,z4,z5,z6,zf⟩:=HR8.out.cells
   have zf0:=zf 0;have zf1:=zf 1;have zf2:=zf 2;have zf3:=zf 3;have zf4:=zf 4;have zf5:=zf 5;have zf6:=zf 6
   clear d hr hq hrd e9 hblV hcV hrhV hif he hfx hW9 zf
   generalize hx.s.closed=cl at *
   generalize hx.s.next=nx at *
   subst hfi
   have k1:decide ((0:Int)<=(i:Int))=true:=decide_eq_true O0
   go_wp2_with fail
   rw[<-HW9.out]
   go_meet
   exact HOUT.out
 case rest=>
  obtain⟨hbx,ub,uk,ut,um,hrx,hrh⟩:=hcut
  clear HR8 HB8 W8 HB6 w6 w7
  obtain⟨⟨Bu,nu,cu,rfl⟩,⟨Ak,nk,ck,rfl⟩,⟨Aq,nt,ct,rfl⟩,⟨Am,nm,cm,rfl⟩⟩:=hrh.slices
  have hflx:hx.flow=ff:=by rw[HHF.out,HFF.out]
  have HCR:Hid (Calls Tryz.prog 50 #[.agg (rhC ff (.slice Bu nu cu) hx.s.closed hx.s.next (.slice Ak nk ck) (.slice Aq nt ct) (.slice Am nm cm)),.agg #[.string ff,.int .u64 (at':Nat),.slice A m cap]] wc (Rb (fun c=>X c\/c=w.heap.size+1+1\/c=g3) hx b wc)):=U (by
   have hbw:=HBW.out wc hbx
   have q:=radd_any hx _ _ _ _ b A cap wc (fun c k=>by
    rcases k with k|k|k
    ·exact Nat.lt_of_lt_of_le (HXB.out c k) hbw.size
    ·have:=hbx.size;have:=HS0.out;omega
    ·rw[k];exact hrx.lt) hrh HGH.out.fine HGH.out.keys (by have:=HGH.out.tot;have:=HT.out;have:=HMM.out;omega) (by have:=HGH.out.len;omega) (EvsIn.leads HEVV.out (HXL.out wc hbx)) HBIN.out.slim HFL.out (by rw[<-HAT.out];exact hbat)
   rw[hflx, <-HFF.out, <-HAT.out, <-HMM.out] at q
   exact q)
  have HBX:=U hbx;have HRX:=U hrx;have HFLX:=U hflx
  obtain⟨z0,z1,z2,z3,z4,z5,z6,zf⟩:=hrx.cells
  have zf0:=zf 0;have zf1:=zf 1;have zf2:=zf 2;have zf3:=zf 3;have zf4:=zf 4;have zf5:=zf 5;have zf6:=zf 6
  clear hrh hrx hbx hflx zf
  obtain⟨y0,y1,y2,-⟩:=(HX.out wc HBX.out).2.1.cells
  obtain⟨cl,hcl⟩:=Rm (hx.s.closed)
  obtain⟨nx,hnx⟩:=Rm (hx.s.next)
  rw[<-hcl, <-hnx] at HCR HRX
  rw[<-hcl] at z2
  rw[<-hnx] at z3
  unfold rhC at HCR
  clear hcl hnx
  go_wp2_with fail
  refine HCR.out.mono ?_
  rintro r w9 ⟨hb9,ub1,uk1,ut1,um1,rfl,hr9⟩
  obtain⟨⟨Bu1,nu1,cu1,rfl⟩,⟨Ak1,nk1,ck1,rfl⟩,⟨Aq1,nt1,ct1,rfl⟩,⟨Am1,nm1,cm1,rfl⟩⟩:=hr9.slices
  rw[HFLX.out]
  unfold rhC
  obtain⟨h1,hh1⟩:∃h',h'=(Du hx b).2:=⟨_,rfl⟩
  obtain⟨cd,hcd⟩:∃c,c=(Du hx b).1:=⟨_,rfl⟩
  have hfw1:h1.flow=ff:=by rw[hh1,Pw,HFLX.out]
  rw[<-hh1] at hr9 ⊢
  rw[<-hcd]
  have HH1:=U hh1;have HCD:=U hcd;have HFW1:=U hfw1
  have HB9:Hid (Below W0.heap.size W0 w9):=U (HBX.out.trans (hb9.mono HBX.out.size))
  have HG3L:Hid (g3<w9.heap.size):=U (Nat.lt_of_lt_of_le HRX.out.lt hb9.size)
  have hrx9:=HRX.out.later hb9 HRX.out.lt
  obtain⟨W10,hW10⟩:=Rm (((((((w9.setCell ⟨g3,0,none⟩ (.string ff)).setCell ⟨g3,1,none⟩ (.slice Bu1 nu1 cu1)).setCell ⟨g3,2,none⟩ (.int .i64 h1.s.closed)).setCell ⟨g3,3,none⟩ (.int .u64 (h1.s.next:Nat))).setCell ⟨g3,4,none⟩ (.slice Ak1 nk1 ck1)).setCell ⟨g3,5,none⟩ (.slice Aq1 nt1 ct1)).setCell ⟨g3,6,none⟩ (.slice Am1 nm1 cm1))
  have HB10:Hid (Below W0.heap.size W0 W10):=U (by rw[hW10];exact Fk (g:=g3) HB9.out HG3.out _ _ _ _ _ _ _)
  have HR10:Hid (RX W10 g3 ff (.slice Bu1 nu1 cu1) h1.s.closed h1.s.next (.slice Ak1 nk1 ck1) (.slice Aq1 nt1 ct1) (.slice Am1 nm1 cm1)):=U (by rw[hW10];exact hrx9.seven)
  have HRH10:Hid (RH (Ds (fun c=>X c\/c=w.heap.size+1+1\/c=g3) W10) h1 (.slice Bu1 nu1 cu1) (.slice Ak1 nk1 ck1) (.slice Aq1 nt1 ct1) (.slice Am1 nm1 cm1)):=U (hr9.leads (Dp (by rw[hW10];simp[World.setCell]) fun c hc hxc=>⟨hxc,by rw[hW10];exact GR (fun e=>hxc (.inr (.inr e))) ..⟩))
  clear z0 z1 z2 z3 z4 z5 z6 zf0 zf1 zf2 zf3 zf4 zf5 zf6
  obtain⟨cl1,hcl1⟩:∃c,c=h1.s.closed:=⟨_,rfl⟩
  obtain⟨nx1,hnx1⟩:∃c,c=h1.s.next:=⟨_,rfl⟩
  have HW10:=U hW10
  obtain⟨z0,z1,z2,z3,z4,z5,z6,zf⟩:=hrx9.cells
  have zf0:=zf 0;have zf1:=zf 1;have zf2:=zf 2;have zf3:=zf 3;have zf4:=zf 4;have zf5:=zf 5;have zf6:=zf 6
  rw[<-hcl1, <-hnx1] at HR10 HW10 ⊢
  have HCL1:=U hcl1;have HNX1:=U hnx1
  clear zf hrx9 hr9 hb9 hW10 hh1 hcd hfw1 HCR HRX hcl1 hnx1
  clear y0 y1 y2
  go_upto_region 10 with fail
  rw[<-HW10.out]
  clear z0 z1 z2 z3 z4 z5 z6 zf0 zf1 zf2 zf3 zf4 zf5 zf6
  by_cases hc:cd=0
  rotate_left
  ·have kc : (cd != 0) = true := by simpa using hc
   have kc2:(cd==0)=false:=by simpa using hc
   have HNE2:=U hc
   have HA2:Hid ((DD x b).1=cd):=U (by rw[addX_m HVT.out HN2.out (by rw[<-HHX.out, <-HCD.out];exact hc), <-HHX.out, <-HCD.out])
   clear hc
   obtain⟨x0,x1,-⟩:=(HX.out W10 HB10.out).1.cells
   obtain⟨q0,q1,qf⟩:=(HX.out W10 HB10.out).2.2.cells
   have qf0:=qf 0;have qf1:=qf 1
   clear qf
   go_wp2_with fail
   refine bodyPost_ret (v:= .tuple #[.agg #[.slice AA nA cA,.slice AF nF cF],.int .i64 cd]) (by simp[results,Tryz.results28,go_sem,q0,q1]) rfl ?_
   exact HBAD.out cd HA2.out HNE2.out W10 HB10.out _ _
  subst hc
  have HADD:=U (addX_0 HVT.out HN2.out (by rw[<-HHX.out, <-HCD.out]))
  go_upto_region 12 with fail
  obtain⟨xsV,hcinV,hcV⟩:=HV0.out.flows
  rw[<-HNF.out] at hcinV
  have HCV':=U hcV;have HCIV:=U hcinV
  have HIN:Hid (∀W,Below W0.heap.size W0 W->CIn W (.slice AF nF cF) nF 7 xsV):=U fun W hW=>(HCIV.out.leads (Df X w)).later (HBW.out W hW)
  obtain⟨i0,hi0,hz0,hz1,hz2⟩:=info_parts Tryz.infoRh
  have HSZ:=U (Od hi0 hz1)
  obtain⟨W11,hW11⟩:=Rm (W10.alloc (.cells #[] 84))
  have HB11:Hid (Below W0.heap.size W0 W11):=U (by rw[hW11];exact HB10.out.alloc HB10.out.size _)
  have HO11:Hid (W11.ownsRow W0.heap.size 84 7 (.slice (some ⟨W10.heap.size,0,none⟩) 0 0) 0 []):=U (by rw[hW11];exact World.ownsRow_lit W10 #[] 0 HB10.out.size (Nat.zero_le _) O3)
  have hbx11:Below W10.heap.size W10 W11:=by rw[hW11];exact Rl
  have HBX11:=U hbx11;have HW11:=U hW11
  have hg0:w.heap.size<W10.heap.size:=by have:=HB10.out.size;have:=HS0.out;omega
  clear hcV hcinV hbx11 hW11
  obtain⟨x0,x1,-⟩:=(HX.out W10 HB10.out).1.cells
  go_upto_if 49 with (at_builtin;rw[<-HW11.out];refine Dq _ rfl _ _ 25 84 rfl i0 _ 7 128 Tryz.underlying25 HSZ.out hi0 hz0 hz1 hz2 rfl O1 W0.heap.size _ _ 0 nF [] xsV rfl rfl HO11.out (HIN.out _ HB11.out) (by simp only[maxLen];omega) O0 HB11.out.size ?_;intro v12 w12 hown hgrow hat12)
  rw[Nat.zero_add,List.nil_append] at hown
  have HB12:Hid (Below W0.heap.size W0 w12):=U (Dg HB11.out hgrow (fun r hr=>(HO11.out.lt r hr).1) HB11.out.size)
  have hbx12:Below W10.heap.size W10 w12:=Dg HBX11.out hgrow (fun r hr=>by have e:W10.heap.size=r:=Option.some.inj hr;omega) HBX11.out.size
  have HR12:Hid (RX w12 g3 ff (.slice Bu1 nu1 cu1) cl1 nx1 (.slice Ak1 nk1 ck1) (.slice Aq1 nt1 ct1) (.slice Am1 nm1 cm1)):=U (HR10.out.later hbx12 HR10.out.lt)
  have HRH12:Hid (RH (Ds (fun c=>X c\/c=w.heap.size+1+1\/c=g3) w12) h1 (.slice Bu1 nu1 cu1) (.slice Ak1 nk1 ck1) (.slice Aq1 nt1 ct1) (.slice Am1 nm1 cm1)):=U (HRH10.out.leads (Dt _ hbx12))
  have HO12:=U hown
  have HONE:Hid (∀x∈(#[.string ff,.slice Bu1 nu1 cu1,.int .i64 cl1,.int .u64 (nx1:Nat),.slice Ak1 nk1 ck1,.slice Aq1 nt1 ct1,.slice Am1 nm1 cm1]:Array Value).toList,x.oneCell'=true):=U (by intro x hx;simp at hx;rcases hx with rfl|rfl|rfl|rfl|rfl|rfl|rfl<;>rfl)
  have HZ2:Hid (∀W,Below W0.heap.size W0 W->Leads (Ds X w) (Ds (fun c=>X c\/c=w.heap.size+1+1) W)):=U fun W hW=>Dp (HBW.out W hW).size fun c hc hx=>⟨fun q=>by
   rcases q with q|q
   ·exact hx q
   ·omega,(HBW.out W hW).block c hc⟩
  have HZB:Hid (∀c,(fun c=>X c\/c=w.heap.size+1+1) c->c<W0.heap.size):=U fun c k=>by
   rcases k with k|k
   ·have:=HXB.out c k;have:=HS0.out;omega
   ·have:=HS0.out;omega
  have HFL1:Hid (h1.flow.size<=maxLen):=U (by rw[HFW1.out,HFF.out];exact HFL.out)
  have HRHX:Hid (∀W,Below W10.heap.size W10 W->RH (Ds (fun c=>X c\/c=w.heap.size+1+1) W) h1 (.slice Bu1 nu1 cu1) (.slice Ak1 nk1 ck1) (.slice Aq1 nt1 ct1) (.slice Am1 nm1 cm1)):=U fun W hW=>HRH10.out.leads (Dp hW.size fun c hc hx=>⟨fun q=>hx (by
   rcases q with q|q
   ·exact .inl q
   ·exact .inr (.inl q)),hW.block c hc⟩)
  have HA12:Hid (∀r,v12.ownBlock=some r->W10.heap.size<=r):=U fun r hr=>by
   have:=HBX11.out.size
   rcases hat12 with e|e
   ·have e2:W10.heap.size=r:=Option.some.inj (e.symm.trans hr);omega
   ·have e2:W11.heap.size=r:=Option.some.inj (e.symm.trans hr);omega
  have HBX12:=U hbx12
  clear hown hgrow hat12 hbx12 x0 x1
  go_cut [9] from 10 (fun v9 wx=>∃R N9 cR,v9= .slice R N9 cR/\Below W0.heap.size W0 wx/\RHs (Ds (fun c=>X c\/c=w.heap.size+1+1) wx) (.slice R N9 cR) (DD x b).2.flows)
  case first =>
   obtain⟨z0,z1,z2,z3,z4,z5,z6,-⟩:=HR12.out.cells
   cases hfx:Dr x.flows ff with
   | none=>
    have hfi:fi= -1:=by rw[HFI.out];unfold OS;rw[hfx]
    have HFX:Hid ((DD x b).2.flows=x.flows++ [h1]):=U (by rw[HADD.out.2.2, <-HFF.out,hfx,HH1.out,HHX.out,HFF.out])
    clear hfx
    subst hfi
    obtain⟨W13,hW13⟩:=Rm (w12.alloc (.cells #[.string ff,.slice Bu1 nu1 cu1,.int .i64 cl1,.int .u64 (nx1:Nat),.slice Ak1 nk1 ck1,.slice Aq1 nt1 ct1,.slice Am1 nm1 cm1] 84))
    have HB13:Hid (Below W0.heap.size W0 W13):=U (by rw[hW13];exact HB12.out.alloc HB12.out.size _)
    have HO13:Hid (W13.ownsRow W0.heap.size 84 7 v12 nF xsV):=U (by rw[hW13];exact HO12.out.alloc _)
    have HI13:Hid (CIn W13 (.slice (some ⟨w12.heap.size,0,none⟩) 1 1) 1 7 (#[.string ff,.slice Bu1 nu1 cu1,.int .i64 cl1,.int .u64 (nx1:Nat),.slice Ak1 nk1 ck1,.slice Aq1 nt1 ct1,.slice Am1 nm1 cm1]:Array Value).toList):=U (by rw[hW13];exact CIn.new w12 _ _ rfl HONE.out)
    have HBX13:Hid (Below w12.heap.size w12 W13):=U (by rw[hW13];exact Rl)
    have HW13:=U hW13
    clear hW13
    obtain⟨A12,c12,rfl,hbr12⟩:=DN HO12.out
    have HBR12:=U hbr12
    clear hbr12
    go_wp2_with (at_builtin;rw[<-HW13.out];refine Dq _ rfl _ _ 25 84 rfl i0 _ 7 128 Tryz.underlying25 HSZ.out hi0 hz0 hz1 hz2 rfl O1 W0.heap.size _ _ nF 1 xsV (#[.string ff,.slice Bu1 nu1 cu1,.int .i64 cl1,.int .u64 (nx1:Nat),.slice Ak1 nk1 ck1,.slice Aq1 nt1 ct1,.slice Am1 nm1 cm1]:Array Value).toList rfl rfl HO13.out HI13.out (by simp only[maxLen];omega) O0 HB13.out.size ?_;intro v14 w14 hown hgrow hat14)
    have HB14:Hid (Below W0.heap.size W0 w14):=U (Dg HB13.out hgrow (fun r hr=>(HO13.out.lt r hr).1) HB13.out.size)
    have HOUT:Hid (∃R N9 cR,v14= .slice R N9 cR/\Below W0.heap.size W0 w14/\RHs (Ds (fun c=>X c\/c=w.heap.size+1+1) w14) (.slice R N9 cR) (DD x b).2.flows):=U (by
     obtain⟨R,cR,rfl,-⟩:=DN hown
     have HRH14:=HRHX.out w14 (Dg (HBX12.out.trans (HBX13.out.mono HBX12.out.size)) hgrow HA12.out (Nat.le_trans HBX12.out.size HBX13.out.size))
     refine⟨R,nF+1,cR,rfl,HB14.out,?_⟩
     rw[HFX.out]
     have e:(x.flows++ [h1]).length=nF+1:=by rw[List.length_append, <-HNF.out];rfl
     refine⟨xsV++(#[.string ff,.slice Bu1 nu1 cu1,.int .i64 cl1,.int .u64 (nx1:Nat),.slice Ak1 nk1 ck1,.slice Aq1 nt1 ct1,.slice Am1 nm1 cm1]:Array Value).toList,?_,?_⟩
     ·rw [e]
      refine CIn.of_veil hown ?_ HZB.out
      intro y hy
      rcases List.mem_append.1 hy with q|q
      ·exact HCIV.out.2.1 y q
      ·exact HONE.out y q
     ·have hone := RHsC.one (V := Ds (fun c => X c \/ c = w.heap.size + 1 + 1) w14) HFL1.out HRH14
      rw[HFW1.out, <-HCL1.out, <-HNX1.out] at hone
      exact(HCV'.out.leads (HZ2.out w14 HB14.out)).append hone)
    clear hown hgrow hat14
    go_meet
    exact HOUT.out
   | some i=>
    have hfi:fi=(i:Nat):=by rw[HFI.out];unfold OS;rw[hfx]
    have HFX:Hid ((DD x b).2.flows=x.flows.set i h1):=U (by rw[HADD.out.2.2, <-HFF.out,hfx,HH1.out,HHX.out,HFF.out])
    obtain⟨hil,-,-⟩:=DL hfx
    have hni:i<nF:=by have:=HNF.out;omega
    obtain⟨r12,c12,rfl⟩:∃r c,v12= .slice (some ⟨r,0,none⟩) nF c:=by
     rcases HO12.out.2 with ⟨-,h0⟩|⟨r,cp,cur,e,-⟩
     ·omega
     ·exact⟨r,cp,e⟩
    obtain⟨-,ub0,uk0,ut0,um0,-,hq⟩:=HCV'.out.2 i hil
    have d:∀q (hq7:q<7) v,(rhC x.flows[i].flow ub0 x.flows[i].s.closed x.flows[i].s.next uk0 ut0 um0)[q]?=some v->w12.cell? ⟨r12,i*7+q,none⟩=some v:=fun q hq7 v hv=>own_cell HO12.out (by rw[hq q hq7];exact hv)
    have d0:=d 0 O0 _ rfl;have d1:=d 1 O0 _ rfl;have d2:=d 2 O0 _ rfl;have d3:=d 3 O0 _ rfl;have d4:=d 4 O0 _ rfl;have d5:=d 5 O0 _ rfl;have d6:=d 6 O0 _ rfl
    rw[Nat.add_zero] at d0
    have hfree:∀q,w12.frozen? ⟨r12,q,none⟩=false:=fun q=>(YI HO12.out).1
    have f0:=hfree (i*7);have f1:=hfree (i*7+1);have f2:=hfree (i*7+2);have f3:=hfree (i*7+3);have f4:=hfree (i*7+4);have f5:=hfree (i*7+5);have f6:=hfree (i*7+6)
    obtain⟨W15,hW15⟩:=Rm (((((((w12.setCell ⟨r12,i*7,none⟩ (.string ff)).setCell ⟨r12,i*7+1,none⟩ (.slice Bu1 nu1 cu1)).setCell ⟨r12,i*7+2,none⟩ (.int .i64 cl1)).setCell ⟨r12,i*7+3,none⟩ (.int .u64 (nx1:Nat))).setCell ⟨r12,i*7+4,none⟩ (.slice Ak1 nk1 ck1)).setCell ⟨r12,i*7+5,none⟩ (.slice Aq1 nt1 ct1)).setCell ⟨r12,i*7+6,none⟩ (.slice Am1 nm1 cm1))
    have HOUT:Hid (∃R N9 cR,(Value.slice (some ⟨r12,0,none⟩) nF c12)= .slice R N9 cR/\Below W0.heap.size W0 W15/\RHs (Ds (fun c=>X c\/c=w.heap.size+1+1) W15) (.slice R N9 cR) (DD x b).2.flows):=U (by
     have hge:=(YI (j:=0) HO12.out).2
     have hge10:W10.heap.size<=r12:=HA12.out r12 rfl
     have hb15:∀B W,B<=r12->Below B W w12->Below B W W15:=fun B W hB hw=>by
      rw[hW15]
      exact((((((hw.setCell (p:=⟨r12,i*7,none⟩) hB _).setCell (p:=⟨r12,i*7+1,none⟩) hB _).setCell (p:=⟨r12,i*7+2,none⟩) hB _).setCell (p:=⟨r12,i*7+3,none⟩) hB _).setCell (p:=⟨r12,i*7+4,none⟩) hB _).setCell (p:=⟨r12,i*7+5,none⟩) hB _).setCell (p:=⟨r12,i*7+6,none⟩) hB _
     have HB15:=hb15 W0.heap.size W0 hge HB12.out
     have HRH15:=HRHX.out W15 (hb15 _ _ hge10 HBX12.out)
     have hown15:W15.ownsRow W0.heap.size 84 7 (.slice (some ⟨r12,0,none⟩) nF c12) nF (((((((xsV.set (i*7) (.string ff)).set (i*7+1) (.slice Bu1 nu1 cu1)).set (i*7+2) (.int .i64 cl1)).set (i*7+3) (.int .u64 (nx1:Nat))).set (i*7+4) (.slice Ak1 nk1 ck1)).set (i*7+5) (.slice Aq1 nt1 ct1)).set (i*7+6) (.slice Am1 nm1 cm1)):=by
      rw[hW15]
      exact OF (OF (OF (OF (OF (OF (OF HO12.out _) _) _) _) _) _) _
     refine⟨_,nF,c12,rfl,HB15,?_⟩
     rw[HFX.out]
     have e:(x.flows.set i h1).length=nF:=by rw[List.length_set, <-HNF.out]
     refine⟨((((((xsV.set (i*7) (.string ff)).set (i*7+1) (.slice Bu1 nu1 cu1)).set (i*7+2) (.int .i64 cl1)).set (i*7+3) (.int .u64 (nx1:Nat))).set (i*7+4) (.slice Ak1 nk1 ck1)).set (i*7+5) (.slice Aq1 nt1 ct1)).set (i*7+6) (.slice Am1 nm1 cm1),?_,?_⟩
     rotate_left
     ·have hset := rhsC_set (HCV'.out.leads (HZ2.out W15 HB15)) i hil h1 HFL1.out HRH15
      rw[HFW1.out, <-HCL1.out, <-HNX1.out] at hset
      exact hset
     ·rw [e]
      exact CIn.of_veil hown15 (OP (OP (OP (OP (OP (OP (OP HCIV.out.2.1 rfl) rfl) rfl) rfl) rfl) rfl) rfl) HZB.out)
    have HW15:=U hW15
    clear d hq hfree hfx hW15
    generalize x.flows[i].flow=ffi at *
    generalize x.flows[i].s.closed=cli at *
    generalize x.flows[i].s.next=nxi at *
    subst hfi
    have k1:decide ((i:Int)<(0:Int))=false:=decide_eq_false O0
    go_wp2_with fail
    rw[<-HW15.out]
    go_meet
    exact HOUT.out
  case rest=>
   obtain⟨R,N9,cR,rfl,hbc,hrhs⟩:=hcut
   have HBC:=U hbc;have HRHS:=U hrhs
   obtain⟨i1,hi1,hy0,hy1,hy2⟩:=info_parts Tryz.infoBt
   have HSZ:=U (Od hi1 hy1)
   obtain⟨xsA,hcinA,hbtA⟩:=HV0.out.all
   rw[<-HNA.out] at hcinA
   have HCIA:=U hcinA;have HBTA:=U hbtA
   clear hcinA hbtA hbc hrhs hi0 hz0 hz1 hz2
   obtain⟨i0,hi0,hz0,hz1,hz2⟩:∃i0:TypeInfo,Tryz.prog.info? 64=some i0/\i0.zero=_/\i0.size=_/\i0.bytes=_:=⟨i1,hi1,hy0,hy1,hy2⟩
   have HONE:Hid (∀x∈(#[Value.string ff,.int .u64 (at':Nat),.slice A m cap]:Array Value).toList,x.oneCell'=true):=U (by intro x hx;simp at hx;rcases hx with rfl|rfl|rfl<;>rfl)
   obtain⟨u0,hu0⟩:∃u,u=wc.drew:=⟨_,rfl⟩
   have HBU:Hid (Below wc.heap.size wc u0):=U (by rw[hu0];exact Da (Below.refl _ _))
   have HBu1:Hid (∀W,Below u0.heap.size u0 W->Below W0.heap.size W0 W):=U fun W hW=>HBC.out.trans ((HBU.out.trans (hW.mono HBU.out.size)).mono HBC.out.size)
   have HBu0:Hid (W0.heap.size<=u0.heap.size):=U (Nat.le_trans HBC.out.size HBU.out.size)
   have HBu:Hid (Below u0.heap.size u0 u0):=U (Below.refl _ _)
   have HKS:Hid (∀W,Below u0.heap.size u0 W->(fun W:World=>W.cell? ⟨w.heap.size+1,0,none⟩=some (.string ff)/\W.cell? ⟨w.heap.size+1,1,none⟩=some (.int .u64 (at':Nat))/\W.cell? ⟨w.heap.size+1,2,none⟩=some (.slice A m cap)) W):=U fun W hW=>by
    exact M199
   have HKS2:Hid (∀W v v',Below u0.heap.size u0 W->(fun W:World=>W.cell? ⟨w.heap.size+1,0,none⟩=some (.string ff)/\W.cell? ⟨w.heap.size+1,1,none⟩=some (.int .u64 (at':Nat))/\W.cell? ⟨w.heap.size+1,2,none⟩=some (.slice A m cap)) ((W.setCell ⟨w.heap.size+1+1,0,none⟩ v).setCell ⟨w.heap.size+1+1,1,none⟩ v')):=U fun W v v' hW=>by
    have d2:BB ((W.setCell ⟨w.heap.size+1+1,0,none⟩ v).setCell ⟨w.heap.size+1+1,1,none⟩ v') (w.heap.size+1) ff at' A m cap:=(RowKit.Below.heap_setCell _ _ _ _ (by show w.heap.size+1≠w.heap.size+1+1;omega)).trans ((RowKit.Below.heap_setCell _ _ _ _ (by show w.heap.size+1≠w.heap.size+1+1;omega)).trans (HX.out W (HBu1.out W hW)).2.1)
    obtain⟨a0,a1,a2,-⟩:=BB.cells d2
    exact⟨a0,a1,a2⟩
   have HCX:Hid (∀W,Below u0.heap.size u0 W->W.cell? ⟨w.heap.size,0,none⟩=some (.slice AA nA cA)/\W.frozen? ⟨w.heap.size+1+1,0,none⟩=false/\W.cell? ⟨w.heap.size+1+1,0,none⟩=some (.slice none 0 0)/\W.frozen? ⟨w.heap.size+1+1,1,none⟩=false/\W.cell? ⟨w.heap.size+1+1,1,none⟩=some (.slice none 0 0)):=U fun W hW=>⟨(HX.out W (HBu1.out W hW)).1.cells.1,(HX.out W (HBu1.out W hW)).2.2.cells.2.2 0,(HX.out W (HBu1.out W hW)).2.2.cells.1,(HX.out W (HBu1.out W hW)).2.2.cells.2.2 1,(HX.out W (HBu1.out W hW)).2.2.cells.2.1⟩
   have HIN:Hid (∀W,Below u0.heap.size u0 W->CIn W (.slice AA nA cA) nA 3 xsA):=U fun W hW=>(HCIA.out.leads (Df X w)).later (HBW.out W (HBu1.out W hW))
   have HOUT:Hid (∀(cF:World) (Ar:Option Addr) (cr:Nat),cF.ownsRow u0.heap.size 64 3 (.slice Ar (nA+1) cr) (nA+1) (xsA++(#[Value.string ff,.int .u64 (at':Nat),.slice A m cap]:Array Value).toList)->(∀r,rowOf Ar=some r->u0.heap.size<=r)->Below u0.heap.size u0 cF->
     Ls X x b w (.returned (.tuple #[.agg #[.slice Ar (nA+1) cr,.slice R N9 cR],.int .i64 0])) ((cF.setCell ⟨w.heap.size+1+1,0,none⟩ (.slice Ar (nA+1) cr)).setCell ⟨w.heap.size+1+1,1,none⟩ (.slice R N9 cR))):=U fun cF Ar cr ho hbr hbF=>by
    have hs:=HS0.out;have hu:=HBu0.out
    obtain⟨W7,hW7⟩:∃W,W=(cF.setCell ⟨w.heap.size+1+1,0,none⟩ (.slice Ar (nA+1) cr)).setCell ⟨w.heap.size+1+1,1,none⟩ (.slice R N9 cR):=⟨_,rfl⟩
    rw[<-hW7]
    have hoff:∀c,c≠w.heap.size+1+1->W7.heap[c]?=cF.heap[c]?:=fun c hc=>by rw[hW7];exact(RowKit.Below.heap_setCell _ _ _ _ hc).trans (RowKit.Below.heap_setCell _ _ _ _ hc)
    have hz7:W7.heap.size=cF.heap.size:=by rw[hW7];simp[World.setCell]
    have hb7:Below w.heap.size w W7:=by rw[hW7];exact((HBW.out cF (HBu1.out cF hbF)).setCell (p:=⟨w.heap.size+1+1,0,none⟩) (Nat.le_succ_of_le (Nat.le_succ _)) _).setCell (p:=⟨w.heap.size+1+1,1,none⟩) (Nat.le_succ_of_le (Nat.le_succ _)) _
    have ho7:=Dx (w':=W7) ho (fun r hr=>hoff r (by have:=hbr r hr;omega))
    refine⟨hb7,_,_,by rw[HADD.out.1],?_,?_⟩
    ·rw [HADD.out.2.1]
     have e:(x.all++ [b]).length=nA+1:=by rw[List.length_append, <-HNA.out];rfl
     refine⟨xsA++(#[Value.string ff,.int .u64 (at':Nat),.slice A m cap]:Array Value).toList,?_,?_⟩
     ·rw [e]
      refine CIn.of_veil ho7 ?_ (by intro c hc;have:=HXB.out c hc;omega)
      intro y hy
      rcases List.mem_append.1 hy with q|q
      ·exact HCIA.out.2.1 y q
      ·exact HONE.out y q
     ·have hone := BtC.one (V := Ds X W7) HFL.out (by rw [<- HAT.out]; exact hbat) (EvsIn.leads HEVV.out (Dt X hb7))
      rw[<-HAT.out, <-HFF.out, <-HMM.out] at hone
      exact(HBTA.out.leads (Dt X hb7)).append hone
    ·exact HRHS.out.leads (Dp (by rw[hz7];exact Nat.le_trans HBU.out.size hbF.size) fun c hc hx=>⟨fun q=>hx (.inl q),(hoff c fun q=>hx (.inr q)).trans ((hbF.block c (Nat.lt_of_lt_of_le hc HBU.out.size)).trans (HBU.out.block c hc))⟩)
   clear HBU
   go_upto_region 16 with fail
   refine wp_region_noPanic ?_
   refine wp_region_held_drew (S:=(fun W:World=>W.cell? ⟨w.heap.size+1,0,none⟩=some (.string ff)/\W.cell? ⟨w.heap.size+1,1,none⟩=some (.int .u64 (at':Nat))/\W.cell? ⟨w.heap.size+1,2,none⟩=some (.slice A m cap))) O2 ?_ (fun hHeld=> ?_)
   ·exact M104
   rw[<-hu0] at hHeld
   rw[<-hu0]
   replace hu0:=U hu0
   refine tk 1 rfl ?_
   refine tk 4 rfl ?_
   refine tk 7 rfl ?_
   refine wpAnyH_ready (rs:=[0,2,5]) O2 O3 ?_
   refine Dh rfl (fun K hK=> ?_) (Dh rfl (fun K hK=> ?_) (Dh rfl (fun K hK=> ?_) AllReadyH.nil))
   ·go_simp
    obtain⟨zw0,hc0⟩:∃u,u=u0.alloc (.cells #[] 64):=⟨_,rfl⟩
    open Q270 in exact KP
   ·open Q569 in exact Rh
   ·go_simp
    obtain⟨zw1,hc1⟩:∃u,u=u0.alloc (.cells (#[Value.string ff,.int .u64 (at':Nat),.slice A m cap]:Array Value) 64):=⟨_,rfl⟩
    open Q360 in exact Js):p:=h
theorem Q451.Y449 (h:p:=by
 obtain⟨x0,x1,-⟩:=(HX.out w5 HB5.out).1.cells
 obtain⟨y0,y1,y2,-⟩:=(HX.out w5 HB5.out).2.1.cells
 obtain⟨q0,q1,qf⟩:=(HX.out w5 HB5.out).2.2.cells
 have qf0:=qf 0;have qf1:=qf 1
 clear qf
 go_wp2_with fail
 refine bodyPost_ret (v:= .tuple #[.agg #[.slice AA nA cA,.slice AF nF cF],.int .i64 12]) (by simp[results,Tryz.results28,go_sem,q0,q1]) rfl ?_
 exact HBAD.out 12 HA2.out HNE2.out w5 HB5.out _ _):p:=h
theorem M449 (h:p:=by
 refine wp_region_noPanic ?_
 refine wp_region_held_drew (S:=(fun W:World=>W.cell? ⟨w.heap.size,0,none⟩=some (.slice AA nA cA)/\W.cell? ⟨w.heap.size,1,none⟩=some (.slice AF nF cF)/\W.cell? ⟨w.heap.size+1,1,none⟩=some (.int .u64 (at':Nat)))) O2 ?_ (fun hHeld=> ?_)
 ·exact M60
 refine tk 0 rfl ?_
 refine tk 1 rfl ?_
 refine tk 2 rfl ?_
 refine rd1 3 rfl fun K hK=> ?_
 go_simp
 (with_reducible refine HCK.out.mono ?_)
 rintro e5 w5 ⟨rfl,hb9⟩
 have hq5:Below w1.heap.size w1 w5:=(Da (Below.refl _ _)).trans hb9
 have HQ5:=U hq5
 clear hb9 hq5
 go_wp2_with fail
 refine hK.out _ _ (KS.out _ HQ5.out) (fun hHeld2=> ?_)
 clear hK K hHeld
 try simp only[ap]
 refine tk 4 rfl ?_
 refine wpAnyH_done O2 ?_ _
 refine NoPanic.normal ?_
 clear hHeld2
 have HB5:Hid (Below W0.heap.size W0 w5):=U (HB1.out.trans (HQ5.out.mono HB1.out.size))
 exact Y449):p:=h
theorem Nb (x:XM)(uA uF:Value)(b:BT)(A:Option Addr)(cap:Nat)(w:World)(hXB:∀c,X c->c<w.heap.size)(h:RIx (Ds X w) x uA uF){T N:Nat}(hg:XGood x T N)(hT:T+b.es.length<=1100000000000)(hN:N<=1000000)(hbin:BIn b)(hev:EvsIn (Ds X w) A cap b.es)(hfl:b.flow.size<=maxLen)(hbat:b.at'<18446744073709551616) :
  Calls Tryz.prog 28 #[.agg #[uA,uF],.agg #[.string b.flow,.int .u64 (b.at':Nat),.slice A b.es.length cap]] w (Ls X x b w):=by
 obtain⟨⟨AA,cA,rfl,hA1,hA2⟩,AF,cF,rfl,hF1,hF2⟩:=h.slices
 have hle:=hev.le
 have hcm:=hev.cap_le
 simp only[maxLen] at hcm hA2 hF2
 have hgh:=(GH hg b.flow).1
 have hhf:=Kf x b.flow
 have hnA:=hg.alen
 have hnF:=hg.len
 obtain⟨m,hm'⟩:=Rm (b.es.length)
 obtain⟨ff,hff⟩:=Rm (b.flow)
 obtain⟨at',hat⟩:∃at',at'=b.at':=⟨_,rfl⟩
 obtain⟨nA,hnnA⟩:∃x',x'=x.all.length:=⟨_,rfl⟩
 obtain⟨nF,hnnF⟩:∃x',x'=x.flows.length:=⟨_,rfl⟩
 have HV0:=U h
 have HEVV:=U hev
 replace hev:=EvsIn.leads hev (Df X w)
 have H0:=U (h.leads (Df X w))
 have HXB:=U hXB
 rw[<-hnnA] at H0 HV0 hA1 hnA
 rw[<-hnnF] at H0 HV0 hF1 hnF
 rw[<-hm'] at hle hT
 rw[<-hat] at hbat
 rw[<-hm', <-hff, <-hat, <-hnnA, <-hnnF]
 have HEV0:=U hev;have HT:=U hT;have HGH:=U hgh;have HHF:=U hhf;have HFL:=U hfl;have HBAT:=U hbat;have HBIN:=U hbin
 have HMM:=U hm';have HFF:=U hff;have HAT:=U hat;have HNA:=U hnnA;have HNF:=U hnnF
 clear h hev hXB hT hgh hhf hfl hbin hm' hff hat hnnA hnnF hg
 obtain⟨W0,hW0⟩:=Rm (((w.alloc (.cells #[.slice AA nA cA,.slice AF nF cF] 27)).alloc (.cells #[.string ff,.int .u64 (at':Nat),.slice A m cap] 64)).alloc (.cells #[.slice none 0 0,.slice none 0 0] 27))
 have hs0:W0.heap.size=w.heap.size+3:=by rw[hW0];simp
 have hb0:Below w.heap.size w W0:=by rw[hW0];exact(Rl.alloc O3 _).alloc (by simp;omega) _
 have hx0:IBox W0 w.heap.size (.slice AA nA cA) (.slice AF nF cF):=by rw[hW0];exact(heap_alloc_old _ _ (by simp;omega)).trans ((heap_alloc_old _ _ O3).trans (heap_alloc_new w _))
 have hx1:W0.heap[w.heap.size+1]?=some (.cells #[.string ff,.int .u64 (at':Nat),.slice A m cap] 64 (0,0)):=by
  rw[hW0,heap_alloc_old _ _ O3]
  have e:=heap_alloc_new (w.alloc (.cells #[.slice AA nA cA,.slice AF nF cF] 27)) (.cells #[.string ff,.int .u64 (at':Nat),.slice A m cap] 64)
  exact M114
 have hx2:IBox W0 (w.heap.size+2) (.slice none 0 0) (.slice none 0 0):=by
  rw[hW0]
  have e:=heap_alloc_new ((w.alloc (.cells #[.slice AA nA cA,.slice AF nF cF] 27)).alloc (.cells #[.string ff,.int .u64 (at':Nat),.slice A m cap] 64)) (.cells #[.slice none 0 0,.slice none 0 0] 27)
  simp only[World.size_alloc] at e
  exact e
 have HX:Hid (∀W,Below W0.heap.size W0 W->IBox W w.heap.size (.slice AA nA cA) (.slice AF nF cF)/\BB W (w.heap.size+1) ff at' A m cap/\IBox W (w.heap.size+1+1) (.slice none 0 0) (.slice none 0 0)):=U fun W hW=>
  ⟨(hW.block _ O0).trans hx0,(hW.block _ O0).trans hx1,(hW.block _ O0).trans hx2⟩
 have HBW:Hid (∀W,Below W0.heap.size W0 W->Below w.heap.size w W):=U fun W hW=>hb0.trans (hW.mono hb0.size)
 have HEV:Hid (∀W,Below W0.heap.size W0 W->EvsIn W A cap b.es):=U fun W hW=>HEV0.out.later (HBW.out W hW)
 have HH:Hid (∀W,Below W0.heap.size W0 W->RIx W x (.slice AA nA cA) (.slice AF nF cF)):=U fun W hW=>H0.out.later (HBW.out W hW)
 have HS0:=U hs0
 clear hs0 hb0 hx0 hx1 hx2
 replace hW0:=U hW0
 have HBAD:Hid (∀c:Int,(DD x b).1=c->c≠0->∀W,Below W0.heap.size W0 W->∀a0 a1,Ls X x b w (.returned (.tuple #[.agg #[.slice AA nA cA,.slice AF nF cF],.int .i64 c])) ((W.setCell ⟨w.heap.size+1+1,0,none⟩ a0).setCell ⟨w.heap.size+1+1,1,none⟩ a1)):=
  U fun c hc hne W hW a0 a1=>by
   have hb7:Below w.heap.size w ((W.setCell ⟨w.heap.size+1+1,0,none⟩ a0).setCell ⟨w.heap.size+1+1,1,none⟩ a1):=((HBW.out W hW).setCell (p:=⟨w.heap.size+1+1,0,none⟩) (Nat.le_succ_of_le (Nat.le_succ _)) _).setCell (p:=⟨w.heap.size+1+1,1,none⟩) (Nat.le_succ_of_le (Nat.le_succ _)) _
   have e2:(DD x b).2=x:=Ow (by rw[hc];exact hne)
   unfold Ls
   rw[e2,hc]
   exact⟨hb7,_,_,rfl,HV0.out.leads (Dt X hb7)⟩
 have HCV:Hid (Calls Tryz.prog 48 #[.agg #[.string ff,.int .u64 (at':Nat),.slice A m cap]] W0 fun r w'=>r= .returned (.bool (Dy ff at' b.es))/\Below W0.heap.size W0 w'):=U (by
  have q:=Sd b.es b.flow HFL.out b.at' (by rw[<-HAT.out];exact hbat) A cap W0 (HEV.out W0 (Below.refl _ _))
  rw[<-HMM.out, <-HFF.out, <-HAT.out] at q
  exact q)
 obtain⟨bv,hbv⟩:=Rm (Dy ff at' b.es)
 rw[<-hbv] at HCV
 have HBV:Hid (Dy b.flow b.at' b.es=bv):=U (by rw[hbv,HFF.out,HAT.out])
 obtain⟨clk,hclk⟩:=Rm (x.clock)
 have HCLK:=U hclk
 clear hbv hclk
 obtain⟨x0,x1,-⟩:=(HX.out W0 (Below.refl _ _)).1.cells
 obtain⟨y0,y1,y2,-⟩:=(HX.out W0 (Below.refl _ _)).2.1.cells
 obtain⟨q0,q1,qf⟩:=(HX.out W0 (Below.refl _ _)).2.2.cells
 have qf0:=qf 0;have qf1:=qf 1
 clear qf
 go_enter Tryz.func28,Tryz.ntmps28
 go_upto_region 1 with fail
 rw[<-hW0.out]
 go_wp2_with fail
 refine HCV.out.mono ?_
 rintro r w1 ⟨rfl,hb1⟩
 have HB1:=U hb1
 clear hb1 HCV
 clear x0 x1
 clear y0 y1 y2
 clear q0 q1 qf0 qf1
 cases hbb:bv with
 | false=>
  have HA2:Hid ((DD x b).1=2):=U (addX_2 (by rw[HBV.out];exact hbb))
  clear hbb
  have HNE2:Hid ((2:Int)≠0):=U O1
  obtain⟨x0,x1,-⟩:=(HX.out w1 HB1.out).1.cells
  obtain⟨y0,y1,y2,-⟩:=(HX.out w1 HB1.out).2.1.cells
  obtain⟨q0,q1,qf⟩:=(HX.out w1 HB1.out).2.2.cells
  have qf0:=qf 0;have qf1:=qf 1
  clear qf
  go_wp2_with fail
  refine bodyPost_ret (v:= .tuple #[.agg #[.slice AA nA cA,.slice AF nF cF],.int .i64 2]) (by simp[results,Tryz.results28,go_sem,q0,q1]) rfl ?_
  exact HBAD.out 2 HA2.out HNE2.out w1 HB1.out _ _
 | true=>
  have HVT:Hid (Dy b.flow b.at' b.es=true):=U (by rw[HBV.out];exact hbb)
  clear hbb
  go_upto_region 3 with fail
  have KS:Hid (∀W,Below w1.heap.size w1 W->(fun W:World=>W.cell? ⟨w.heap.size,0,none⟩=some (.slice AA nA cA)/\W.cell? ⟨w.heap.size,1,none⟩=some (.slice AF nF cF)/\W.cell? ⟨w.heap.size+1,1,none⟩=some (.int .u64 (at':Nat))) W):=U fun W hW=>by
   have hWW:=HB1.out.trans (hW.mono HB1.out.size)
   obtain⟨a0,a1,-⟩:=(HX.out W hWW).1.cells
   obtain⟨-,d1,-,-⟩:=(HX.out W hWW).2.1.cells
   exact⟨a0,a1,d1⟩
  have HCK:Hid (Calls Tryz.prog 13 #[.agg #[.slice AA nA cA,.slice AF nF cF]] w1.drew fun r w'=>r= .returned (.int .u64 (clk:Nat))/\Below w1.drew.heap.size w1.drew w'):=U (by
   have q:=JV x (.slice AA nA cA) (.slice AF nF cF) w1.drew ((HH.out w1 HB1.out).later (Da (Below.refl _ _)))
   rw[<-HCLK.out] at q
   exact q)
  by_cases h2:at'<clk
  ·have HA2 : Hid ((DD x b).1 = 12) := U (addX_12 HVT.out (by rw [<- HAT.out, <- HCLK.out]; exact h2))
   have k5:decide ((at':Int)<(clk:Int))=true:=decide_eq_true O0
   have k5n:decide (at'<clk)=true:=decide_eq_true h2
   clear h2
   have HNE2:Hid ((12:Int)≠0):=U O1
   open Q451 in exact M449
  have HN2:Hid (¬b.at'<x.clock):=U (by rw[<-HAT.out, <-HCLK.out];exact h2)
  have k5:decide ((at':Int)<(clk:Int))=false:=decide_eq_false O0
  have k5n:decide (at'<clk)=false:=decide_eq_false h2
  clear h2
  open Q450 in exact M449
variable {E Z : Nat -> Prop} {u v w w' V V' : World} {xb : Nat} {x : XM}
theorem HSame.refl (h:HM):HSame h h:=⟨rfl,rfl,rfl,rfl,rfl,rfl,fun i _ _=>⟨rfl,rfl,Cm.OJ _⟩,rfl,fun i _ _=>⟨rfl,rfl,rfl,rfl,rfl,Vt.Gy _⟩⟩
structure XSame (x y : XM) : Prop where
 len:y.flows.length=x.flows.length
 flows:∀i (h:i<x.flows.length) (h':i<y.flows.length),HSame x.flows[i] y.flows[i]
 clock:x.clock=y.clock
theorem XSame.refl (x:XM):XSame x x:=⟨rfl,fun i _ _=>HSame.refl _,rfl⟩
theorem XSame.names {x y:XM}(h:XSame x y):x.flows.map (·.flow)=y.flows.map (·.flow):=by
 refine List.ext_getElem (by simp[h.len]) fun i h1 h2=> ?_
 rw[List.getElem_map,List.getElem_map]
 exact(h.flows i (by simpa using h1) (by simpa using h2)).flow
theorem Lb {base n k:Nat}{T:TypeId}{v:Value}{xs:List Value}(h:w.ownsRow base T k v n xs)(hb:∀r,v.ownBlock=some r->w'.heap[r]?=w.heap[r]?):w'.ownsRow base T k v n xs:=by
 refine⟨h.1,?_⟩
 rcases h.2 with q|⟨r,cp,cur,rfl,q2,q3,q4,q5,q6,q7⟩
 ·exact .inl q
 ·exact .inr ⟨r,cp,cur,rfl,q2,(hb r rfl).trans q3,q4,q5,q6,q7⟩
def SRows (base:Nat)(W:World)(v5 v6:Value)(ns os:List ByteArray):Prop:=W.ownsRow base 9 1 v5 ns.length (ns.map .string)/\W.ownsRow base 9 1 v6 os.length (os.map .string)/\∀r,v5.ownBlock=some r->v6.ownBlock≠some r
theorem SRows.later {base:Nat}{v5 v6:Value}{ns os:List ByteArray}(h:SRows base w v5 v6 ns os)(hb:Below w.heap.size w w'):SRows base w' v5 v6 ns os:=⟨Fg h.1 hb,Fg h.2.1 hb,h.2.2⟩
theorem SRows.name {base:Nat}{v5 v6 v':Value}{ns os:List ByteArray}{f:ByteArray}(h:SRows base w v5 v6 ns os)(ho:w'.ownsRow base 9 1 v' (ns.length+1) (ns.map .string++ [.string f]))(hg:w.grownBy w' v5.ownBlock)(hat:v'.ownBlock=v5.ownBlock\/v'.ownBlock=some w.heap.size):SRows base w' v' v6 (ns++ [f]) os:=by
 refine⟨by rw[List.length_append,List.map_append];exact ho,Lb h.2.1 fun r hr=>hg.block r (h.2.1.lt r hr).2 fun e=>h.2.2 r e.symm hr,fun r hr e=> ?_⟩
 rcases hat with q|q
 ·exact h.2.2 r (q.symm.trans hr) e
 ·have e2 : w.heap.size = r := Option.some.inj (q.symm.trans hr)
  have:=(h.2.1.lt r e).2
  omega
theorem SRows.open_ {base:Nat}{v5 v6 v':Value}{ns os:List ByteArray}{f:ByteArray}(h:SRows base w v5 v6 ns os)(ho:w'.ownsRow base 9 1 v' (os.length+1) (os.map .string++ [.string f]))(hg:w.grownBy w' v6.ownBlock)(hat:v'.ownBlock=v6.ownBlock\/v'.ownBlock=some w.heap.size):SRows base w' v5 v' ns (os++ [f]):=by
 refine⟨Lb h.1 fun r hr=>hg.block r (h.1.lt r hr).2 fun e=>h.2.2 r hr e.symm,by rw[List.length_append,List.map_append];exact ho,fun r hr e=> ?_⟩
 rcases hat with q|q
 ·exact h.2.2 r hr (q.symm.trans e)
 ·have e2 : w.heap.size = r := Option.some.inj (q.symm.trans e)
  have:=(h.1.lt r hr).2
  omega
open Ev (zeroT)
open Cn (GU GY Vj)
open Vf (Gu ve_of)
theorem few_v2 {e:EV}(h:GY e=true):e.v.few=true:=by
 unfold GY at h
 simp only[Bool.and_eq_true] at h
 exact h.1.1
theorem Ko {e:EV}(hv:e.valid=true)(hfew:e.v.few=true):(Gu e).length<=30000:=by
 have V:=ve_of hv
 have h1:=V.s1;have h2:=V.t1
 have h3:=Vf.OH hfew
 unfold Gu
 rw[Vf.sel6]
 have hs:∀s:ByteArray,s.size<=1000->(Pf.Og s).length<=1011:=fun s h=>by unfold Pf.Og;rw[List.length_append,Bt.Ox];have:=Bt.Dv 10 s.size;omega
 have hi:∀(b:Bool) (l:List Nat) (n:Nat),l.length<=n->(if b=true then l else []).length<=n:=fun b l n h=>by split<;>simp[h]
 have a0:=hi (Vf.FA e 0) _ _ (Bt.Dv 10 e.id);have a1:=hi (Vf.FA e 1) _ _ (Bt.Dv 10 e.n.toNat);have a2:=hi (Vf.FA e 2) _ _ (Bt.Dv 10 e.at')
 have a3:=hi (Vf.FA e 3) _ _ (hs _ h1);have a4:=hi (Vf.FA e 4) _ _ (hs _ h2);have a5:=hi (Vf.FA e 5) _ _ h3
 have a6:=Bt.Dv 10 e.k.toNat
 simp only[List.length_append,List.length_singleton]
 omega
theorem flat_le2 {es:List EV}{M:Nat}(h:∀e∈es,(Gu e).length<=M):((es.map Gu).flatten).length<=es.length*M:=by
 induction es with
 | nil=>simp
 | cons x l ih=>
  have h1:=h x (List.mem_cons_self ..)
  have h2:=ih fun e he=>h e (List.mem_cons_of_mem _ he)
  simp only[List.map_cons,List.flatten_cons,List.length_append,List.length_cons,Nat.succ_mul]
  omega
theorem UU {b:BT}(hl:b.es.length<=2097152)(hF:∀k (hk:k<b.es.length),GY b.es[k]=true)(hv:Dy b.flow b.at' b.es=true):GU b.es (b.es.map Gu)/\(b.es.map Gu).flatten.length<=17592186044416/\b.es.length<=1099511627775:=by
 have hall:∀e∈b.es,e.valid=true:=by
  unfold Dy at hv
  simp only[Bool.and_eq_true,Bool.not_eq_true',List.any_eq_false] at hv
  intro e he
  have:=hv.2 e he
  unfold Cn.DH at this
  simpa using this
 have hfew:∀e∈b.es,e.v.few=true:=fun e he=>by
  obtain⟨i,hi,rfl⟩:=List.getElem_of_mem he
  exact few_v2 (hF i hi)
 refine⟨⟨O3,fun i h h' lo hi vk vn vf vs A m c w hf hr hz=> ?_⟩,?_,O0⟩
 ·rw [List.getElem_map]
  exact Vf.Kp b.es[i] (hall _ (List.getElem_mem h)) hf (hfew _ (List.getElem_mem h)) lo hi vk vn vf vs A m c w hr hz
 ·have := flat_le2 (es := b.es) (M := 30000) fun e he => Ko (hall e he) (hfew e he)
  omega
open Cn (SG)
variable {E E' Z : Nat -> Prop} {u v w w' w0 V V' : World} {xb : Nat} {x : XM}
def Forms (bl:List BT):Prop:=∀i (h:i<bl.length),Dy bl[i].flow bl[i].at' bl[i].es=true->Cn.GU bl[i].es (bl[i].es.map Vf.Gu)/\(bl[i].es.map Vf.Gu).flatten.length<=17592186044416/\bl[i].es.length<=1099511627775
theorem ND {bl:List BT}(hf:Vj bl)(hl:∀b∈bl,b.es.length<=2097152):Forms bl:=fun i hi hv=>UU (hl _ (List.getElem_mem hi)) (fun k hk=>hf.few i hi k hk) hv
theorem XAt.step (H:XAt E w xb Z x)(hb:Below w.heap.size w w')(h1:∀c,E' c->E c\/w.heap.size<=c)(h2:∀c,E' c->c<w'.heap.size):∃Z',XAt E' w' xb Z' x/\∀c,Z' c->Z c\/w.heap.size<=c:=by
 obtain⟨mb,nm,N,cN,R,cR,ps,rfl,H⟩:=H
 refine⟨_,⟨mb,nm,N,cN,R,cR,ps,rfl,H.step (Chg.of_below hb) h1 h2⟩,fun c q=> ?_⟩
 refine Pj (B:=XB E xb mb N R) (fun c q=> ?_) q
 rcases q with q|q
 ·exact(h1 c q).imp .inl id
 ·exact .inl (.inr q)
structure LX (w0 : World) (g : Nat) (w : World) (xb : Nat) (x : XM) : Prop where
 ex:∃Z uA uF,XAt (fun c=>c=g) w xb Z x/\(∀c,Z c->w0.heap.size<=c)/\Below w0.heap.size w0 w/\IBox w g uA uF/\RIx (Ds Z w) x uA uF
theorem LX.later {g:Nat}(k:LX w0 g w xb x)(hw:Below w.heap.size w w'):LX w0 g w' xb x:=by
 obtain⟨Z,uA,uF,h1,h2,h3,h4,h5⟩:=k.ex
 exact⟨Z,uA,uF,h1.later hw,h2,h3.trans (hw.mono h3.size),h4.later hw h4.lt,h5.leads (Dt _ hw)⟩
theorem clkX_lt {bl:List BT}(hat:∀i (h:i<bl.length),bl[i].at'<18446744073709551616)(j:Nat)(hj:j<=bl.length):(Gw (bl.take j)).clock<18446744073709551616:=by
 induction j with
 | zero=>rw[List.take_zero];decide
 | succ n ih=>
  rw[SB bl n O0]
  by_cases hc:(DD (Gw (bl.take n)) bl[n]).1=0
  ·rw[Ji hc];exact hat n O0
  ·rw[Ow hc];exact ih O0
theorem LX.add {g:Nat}(H:XAt (fun c=>c=g) w xb Z x){bl:List BT}(hl:LIn bl)(hfo:Forms bl){j:Nat}(hj:j<bl.length)(hx:x=Gw (bl.take j)){b:BT}(hbj:b=bl[j]'hj)(A2:Option Addr)(c2:Nat)(hev:EvsIn (Ds Z w) A2 c2 b.es)(hfl:b.flow.size<=maxLen)(hat:b.at'<18446744073709551616)(hclk:x.clock<18446744073709551616) :
  Calls Tryz.prog 20 #[.pointer (some ⟨xb,0,none⟩),.agg #[.string b.flow,.int .u64 (b.at':Nat),.slice A2 b.es.length c2]] w (XAdd (fun c=>c=g) w xb Z x b):=by
 subst hbj
 exact PU H (T:=tot (bl.take j)) (NN:=j) (by rw[hx];exact Gx hl j O0) bl[j] A2 c2 hev (hl.bin j hj) (by have:=hl.take j hj;omega) (by have:=hl.len;omega) hfl hat hclk (hfo j hj)
theorem lx_bts {B:Option Addr}{bc:Nat}{bl:List BT}(hB:BtsIn w0 B bc bl)(hb:Below w0.heap.size w0 w)(hZ:∀c,Z c->w0.heap.size<=c):BtsIn (Ds Z w) B bc bl:=BtsIn.leads hB (Kb hb hZ)
theorem bts_lt {B:Option Addr}{bc:Nat}{bl:List BT}(hB:BtsIn w B bc bl):∀i (h:i<bl.length),bl[i].at'<18446744073709551616:=fun i h=>by
 obtain⟨b,off,-,-,h3⟩:=hB.at_ O0
 obtain⟨A2,c2,-,hat,-⟩:=h3 i h
 exact hat
theorem UD {g:Nat}(a b:Value):Chg (fun c=>c=g) w ((w.setCell ⟨g,0,none⟩ a).setCell ⟨g,1,none⟩ b):=(Chg.setCell (X:=fun c=>c=g) (p:=⟨g,0,none⟩) rfl a).trans (Chg.setCell (X:=fun c=>c=g) (p:=⟨g,1,none⟩) rfl b)
theorem IBox.set2 {g:Nat}{a b a' b':Value}(h:IBox w g a b):IBox ((w.setCell ⟨g,0,none⟩ a').setCell ⟨g,1,none⟩ b') g a' b':=by
 unfold IBox at *;simp[World.setCell,Array.getElem?_modify,h]
variable {w w' w0 : World} {xb : Nat} {x : XM}
open Cn (three YX)
open Go.ChangeShapes Go.WideShapes Go.ChangeAt Go.Joins Go.Deep
theorem bulk_pos {H:Type}(d:DataW H):1<=Rows.uptoBulk d:=by
 cases d with
 | lit l=>cases l<;>simp[Rows.uptoBulk]
 | _=>simp only[Rows.uptoBulk];omega
theorem bulk_len {H:Type}(l:List (DataW H)):l.length<=Rows.uptoBulkAll l:=by
 induction l with
 | nil=>simp
 | cons d l ih=>
  simp only[Rows.uptoBulkAll,List.length_cons]
  have:=bulk_pos d
  omega
theorem Vc {H : Type} : ∀ {l : List (DataW H)} {i : Nat} {d : DataW H}, l[i]? = some d -> Rows.uptoBulk d <= Rows.uptoBulkAll l
 | [],i,d,h=>by simp at h
 | d0::r,0,d,h=>by
  have h:d0=d:=by simpa using h
  subst h
  simp only[Rows.uptoBulkAll];omega
 | d0::r,i+1,d,h=>by
  have:=Vc (l:=r) (i:=i) (d:=d) (by simpa using h)
  simp only[Rows.uptoBulkAll];omega
theorem LV {H:Type}{d:DataW H}{l:List (DataW H)}{i:Nat}(h:Rows.uptoSmall H l=true)(hi:l[i]?=some d):Rows.uptoBulk d<=1048576:=Nat.le_trans (Vc hi) (of_decide_eq_true h)
theorem open_bts {H : Type} {enc : TypeId × Value -> H} {W : World} {base : Nat} {spare : Nat -> Bool} {held : Bool} (fuel : Nat) (cs : List Value) (x : DataW H × List MemPlace)
  (h:DataW.trod enc Tryz.prog W base spare held fuel 64 cs=some x) :
  ∃(b:BT) (A':Option Addr) (c:Nat),b.flow.size<=maxLen/\b.at'<18446744073709551616/\EvsIn W A' c b.es/\(Rows.uptoBulk x.1<=1048576->b.es.length<=2097152)/\cs= [.string b.flow,.int .u64 b.at',.slice A' b.es.length c]:=by
 have hC:Tryz.prog.cellsOf 64=3:=O2
 obtain⟨xs,n,hn,hx,hlen,hxl,hg⟩:=DataW.trod_struct Tryz.underlying64 h
 obtain⟨c0,c1,c2,rfl⟩:=three cs (hlen.trans hC)
 obtain⟨x0,x1,x2,rfl⟩:∃x0 x1 x2,xs= [x0,x1,x2]:=by
  have:xs.length=3:=hxl
  match xs,this with
  | [a,b,c],_=>exact⟨a,b,c,rfl⟩
 have g0:=hg 0 _ rfl;have g1:=hg 1 _ rfl;have g2:=hg 2 _ rfl
 have k2:Tryz.prog.cellsOf 9=1:=O2
 have k3:Tryz.prog.cellsOf 62=1:=O2
 have k4:Tryz.prog.cellsOf 23=1:=O2
 simp[k2,k3,k4] at g0 g1 g2
 obtain⟨s,e0,-,w0⟩:=DataW.trod_string Tryz.underlying9 g0
 obtain⟨m,e1,-,w1⟩:=DataW.trod_int Tryz.underlying23 g1
 obtain rfl:=List.singleton_inj.1 e0
 obtain rfl:=List.singleton_inj.1 e1
 simp[Lit.wf,IntKind.min,IntKind.max,IntKind.bits,IntKind.signed] at w1
 obtain⟨es,A,cap,rfl,hes,hd⟩:=YX n c2 x2 g2
 obtain⟨mn,hmn⟩:∃mn:Nat,m=mn:=⟨m.toNat,O0⟩
 subst hmn
 have hdd:x.1= .agg [x0.1,x1.1,x2.1]:=by rw[hx];rfl
 refine⟨⟨s,mn,es⟩,A,cap,w0,by show mn<_;omega,hes,?_,rfl⟩
 intro hb
 rcases hd with ⟨rfl,-⟩|⟨elems,rest,h2,hl⟩
 ·simp
 ·rw [hdd, h2] at hb
  simp only[Rows.uptoBulk,Rows.uptoBulkAll] at hb
  have:=bulk_len elems
  show es.length<=_
  omega
theorem NQ {H : Type} {enc : TypeId × Value -> H} {base b1 : Nat} {spare : Nat -> Bool} {held : Bool} {d : DataW H} {p : List MemPlace} (v : Value) (W : World)
  (o:Value.okWide Tryz.prog W .any base 22 v) (k:DataW.Trod enc Tryz.prog W b1 spare held 22 v d p) :
  ∃(bl:List BT) (A:Option Addr) (cap:Nat),v= .slice A bl.length cap/\BtsIn W A cap bl/\(Rows.uptoBulk d<=1048576->∀b∈bl,b.es.length<=2097152):=by
 have hC:Tryz.prog.cellsOf 64=3:=O2
 obtain⟨fuel,hf⟩:=k
 have hcs:∃A n c,v= .slice A n c:=by
  obtain⟨A,n,c,rfl⟩:=okWide_slice Tryz.underlying22 o
  exact⟨_,_,_,rfl⟩
 obtain⟨A0,n0,cp,rfl⟩:=hcs
 have hcs:(Value.slice A0 n0 cp).cells.toList= [.slice A0 n0 cp]:=rfl
 rw[hcs] at hf
 rcases DataW.trod_slice Tryz.underlying22 hf with ⟨e4,hx⟩|⟨a,l0,cp0,elems,rest,n',hn',e4,hx,hb,hl,hm,hel,he,-,-⟩
 ·obtain e4 := List.singleton_inj.1 e4
  refine⟨[],none,0,e4,⟨Nat.le_refl _,Nat.zero_le _,fun h=>absurd h O3⟩,fun _ b hb=>absurd hb O3⟩
 ·obtain e4 := List.singleton_inj.1 e4
  have hd:d= .slice (elems.map (·.1)) (rest.map (·.1)):=by
   have:=congrArg Prod.fst hx
   exact this
  have h4:∀i:Nat,∃tC:BT×(Option Addr×Nat),i<l0->tC.1.flow.size<=maxLen/\tC.1.at'<18446744073709551616/\EvsIn W tC.2.1 tC.2.2 tC.1.es/\(Rows.uptoBulk d<=1048576->tC.1.es.length<=2097152)/\
    ∀j,j<3->W.cell? (a.add (i*3) |>.add j)=([Value.string tC.1.flow,.int .u64 tC.1.at',.slice tC.2.1 tC.1.es.length tC.2.2]:List Value)[j]?:=fun i=>by
   by_cases hi:i<l0
   ·have e := he i hi
    rw[List.getElem?_eq_getElem O0] at e
    obtain⟨cs',q1,q2⟩:=Option.bind_eq_some_iff.1 e
    obtain⟨b,A',c,p1,p2,p3,p4,rfl⟩:=open_bts n' cs' _ q2
    rw[hC] at q1
    obtain⟨_,ql,qc⟩:=World.cells?_some q1
    exact⟨(b,A',c),fun _=>⟨p1,p2,p3,fun hb=>p4 (by
     refine Nat.le_trans (Vc (l:=elems.map (·.1)) (i:=i) (by rw[List.getElem?_map,List.getElem?_eq_getElem O0];rfl)) ?_
     rw[hd] at hb
     simp only[Rows.uptoBulk] at hb
     omega),fun j hj=>by rw[qc j hj]⟩⟩
   ·exact⟨(⟨.empty,0,[]⟩,none,0),fun h=>absurd h hi⟩
  obtain⟨F,hF⟩:=Classical.axiomOfChoice h4
  have hlen':((List.range l0).map fun i=>(F i).1).length=l0:=O3
  refine⟨(List.range l0).map fun i=>(F i).1,some a,cp0,by rw[hlen'];exact e4,⟨by rw[hlen'];exact hl,hm,fun hp=> ?_⟩,fun hbu b hb=> ?_⟩
  rotate_left
  ·obtain ⟨i, hi, rfl⟩ := List.mem_map.1 hb
   exact(hF i (List.mem_range.1 hi)).2.2.2.1 hbu
  rw[hlen'] at hp
  have h0:=(hF 0 hp).2.2.2.2 0 O0
  obtain⟨b,off,spot⟩:=a
  have hs:spot=none:=by
   cases spot with
   | none=>rfl
   | some q=>
    simp[Addr.add,World.cell?] at h0
    split at h0<;>simp at h0
  subst hs
  have hlt:b<W.heap.size:=by
   rcases Nat.lt_or_ge b W.heap.size with q|q
   ·exact q
   ·simp[Addr.add,World.cell?,Array.getElem?_eq_none q] at h0
  refine⟨b,off,rfl,hlt,fun i hi=> ?_⟩
  rw[hlen'] at hi
  obtain⟨p1,p2,p3,-,p5⟩:=hF i hi
  have ad:∀j,(Addr.add ⟨b,off,none⟩ (i*3)).add j=⟨b,off+i*3+j,none⟩:=fun j=>by rw[Go.Deep.add_add,add_plain,Nat.add_assoc]
  refine⟨(F i).2.1,(F i).2.2,by simpa using p1,by simpa using p2,by simpa using p3,?_,?_,?_⟩
  ·have:=p5 0 O0;rw[ad] at this;simpa using this
  ·have:=p5 1 O0;rw[ad] at this;simpa using this
  ·have:=p5 2 O0;rw[ad] at this;simpa using this
end Hi
namespace Ta
open _root_.Go.Proofs.YtaahfiopdoinkaaGreat.Nm (Dk De)
open Vt (VT Rep Da)
open Ev (EV Dj Db Dn)
open Cm (rowOf EvsIn)
open Cn (BT BB BtsIn Dy SG GY Vj)
open Hi
attribute [local go_sem] Oper.semAt_some
variable {E Z : Nat -> Prop} {w w' w0 : World} {xb : Nat} {x : XM}
def E2 (a b c:Nat):Prop:=c=a\/c=b
structure LT (w0 : World) (g g3 : Nat) (w : World) (xb : Nat) (x : XM) : Prop where
 ne:g≠g3
 ex:∃Z uA uF,XAt (E2 g g3) w xb Z x/\(∀c,Z c->w0.heap.size<=c)/\Below w0.heap.size w0 w/\IBox w g uA uF/\RIx (Ds Z w) x uA uF/\IBox w g3 (.slice none 0 0) (.slice none 0 0)
theorem LT.later {g g3:Nat}(k:LT w0 g g3 w xb x)(hb:Below w.heap.size w w'):LT w0 g g3 w' xb x:=by
 obtain⟨hne,Z,uA,uF,h1,h2,h3,h4,h5,h6⟩:=k
 exact⟨hne,Z,uA,uF,h1.later hb,h2,h3.trans (hb.mono h3.size),h4.later hb h4.lt,h5.leads (Dt _ hb),h6.later hb h6.lt⟩
theorem NP (bl:List BT)(B:Option Addr)(bc:Nat)(w0:World)(hB:BtsIn w0 B bc bl)(hlen:∀b∈bl,b.es.length<=2097152) :
  Calls Tryz.prog 8 #[.slice B bl.length bc] w0 fun r w'=>Below w0.heap.size w0 w'/\((∃xb,r= .returned (.tuple #[.pointer (some ⟨xb,0,none⟩),.agg #[.slice none 0 0,.slice none 0 0],.bool false]))\/
   (Vj bl/\∃xb g g3 Z uA uF,r= .returned (.tuple #[.pointer (some ⟨xb,0,none⟩),.agg #[uA,uF],.bool true])/\XAt (E2 g g3) w' xb Z (Gw bl)/\(∀c,Z c->w0.heap.size<=c)/\RIx (Ds Z w') (Gw bl) uA uF)):=by
 have hle:=hB.le;have hbc:=hB.cap_le
 simp only[maxLen] at hbc
 have HBT:=U hB;have HLEN:=U hlen
 clear hB hlen
 obtain⟨m,hm⟩:=Rm (bl.length)
 rw[<-hm] at hle ⊢
 have HMM:=U hm;clear hm
 obtain⟨W0,hW0⟩:=Rm (w0.alloc (.cells #[.slice none 0 0,.slice none 0 0] 27))
 obtain⟨g3,hg3⟩:∃g,g=w0.heap.size:=⟨_,rfl⟩
 have hb0:Below w0.heap.size w0 W0:=by rw[hW0];exact Rl
 have hx0:IBox W0 g3 (.slice none 0 0) (.slice none 0 0):=by rw[hW0,hg3];exact IBox.new ..
 have HB0:=U hb0;have HX0:=U hx0;have HG3:=U hg3
 have HNW:=U (Ui W0 (fun c=>c=g3) (fun c e=>by have e:c=g3:=e;rw[e];exact hx0.lt))
 clear hb0 hx0
 replace hW0:=U hW0;replace hg3:=U hg3
 go_enter Tryz.func8,Tryz.ntmps8
 go_upto_region 1 with fail
 rw[<-hW0.out, <-hg3.out]
 go_wp2_with fail
 refine HNW.out.mono ?_
 rintro r w1 ⟨xb,Z0,rfl,hb1,H1,hZ1⟩
 obtain⟨W2,hW2⟩:=Rm (w1.alloc (.cells #[.slice none 0 0,.slice none 0 0] 27))
 obtain⟨g4,hg4⟩:∃g,g=w1.heap.size:=⟨_,rfl⟩
 have hb12:Below w1.heap.size w1 W2:=by rw[hW2];exact Rl
 have hb2:Below w0.heap.size w0 W2:=HB0.out.trans ((hb1.trans (hb12.mono hb1.size)).mono HB0.out.size)
 have hx4:IBox W2 g4 (.slice none 0 0) (.slice none 0 0):=by rw[hW2,hg4];exact IBox.new ..
 have hx3:IBox W2 g3 (.slice none 0 0) (.slice none 0 0):=HX0.out.later (hb1.trans (hb12.mono hb1.size)) HX0.out.lt
 have hne:g4≠g3:=by have:=HX0.out.lt;have:=hb1.size;omega
 have HL0:Hid (LT w0 g4 g3 W2 xb (Gw (bl.take 0))):=U (by
  obtain⟨Z',H',h'⟩:=H1.step (E':=E2 g4 g3) hb12 (fun c q=>by
   rcases q with q|q
   ·exact .inr O0
   ·exact .inl q) (fun c q=>by
   rcases q with q|q
   ·rw[q];exact hx4.lt
   ·rw[q];exact hx3.lt)
  rw[List.take_zero]
  refine⟨hne,Z',_,_,H',fun c q=> ?_,hb2,hx4,rix_new _,hx3⟩
  rcases h' c q with e|e
  ·rcases hZ1 c e with e | e
   ·have e:c=g3:=e;rw[e,HG3.out];exact Nat.le_refl _
   ·exact Nat.le_trans HB0.out.size e
  ·have:=hb1.size;have:=HB0.out.size;omega)
 have HFC:=U (show Calls _ _ _ _ _ from by have q:=SG bl B bc W2 (HBT.out.later hb2);rw[<-HMM.out] at q;exact q)
 have HB2:=U hb2;have HX4:=U hx4;have HX3:=U hx3;have HNE:=U hne
 clear hb1 hb12 hb2 H1 hZ1 hx4 hx3 hne
 replace hW2:=U hW2;replace hg4:=U hg4
 go_upto_region 3 with fail
 rw[<-hW2.out, <-hg4.out]
 go_wp2_with fail
 refine HFC.out.mono ?_
 rintro r w3 ⟨bb,rfl,hfew,hb3⟩
 have HB3:=U (HB2.out.trans (hb3.mono HB2.out.size));have HFEW:=U hfew
 have HB23:=U hb3
 clear hb3 hfew HFC
 cases bb with
 | false=>
  obtain⟨q0,q1,qf⟩:=(HX4.out.later HB23.out HX4.out.lt).cells
  have hx3:=HX3.out.later HB23.out HX3.out.lt
  obtain⟨y0,y1,yf⟩:=hx3.cells
  have yf0:=yf 0;have yf1:=yf 1
  obtain⟨W5,hW5⟩:=Rm (((w3.setCell ⟨g3,0,none⟩ (.slice none 0 0)).setCell ⟨g3,1,none⟩ (.slice none 0 0)).drew)
  have HX5:Hid (IBox W5 g3 (.slice none 0 0) (.slice none 0 0)):=U (by rw[hW5];exact IBox.set2 (w:=w3) hx3)
  have HB5:Hid (Below w0.heap.size w0 W5):=U (by
   rw[hW5]
   exact Da (HB3.out.trans ((UD (w:=w3) (g:=g3) _ _).below HB3.out.size fun c e=>by have e:c=g3:=e;rw[e,hg3.out];exact Nat.le_refl _)))
  replace hW5:=U hW5
  clear qf yf hx3
  go_wp2_with fail
  go_region
  go_wp2_with fail
  rw[<-hW5.out]
  (try simp only[Exit.inBlock,Exit.then])
  refine bodyPost_ret (v:= .tuple #[.pointer (some ⟨xb,0,none⟩),.agg #[.slice none 0 0,.slice none 0 0],.bool false]) ?_ rfl ⟨HB5.out,.inl ⟨_,rfl⟩⟩
  obtain⟨z0,z1,-⟩:=HX5.out.cells
  simp[results,Tryz.results8,go_sem,z0,z1]
 | true=>
  have HLI:=U (Xw (HFEW.out rfl) fun b hb=>by have:=HLEN.out b hb;omega)
  have HFO:=U (ND (HFEW.out rfl) HLEN.out)
  have HFB:Hid (Vj bl):=U (HFEW.out rfl)
  have HL3:=U (HL0.out.later HB23.out)
  clear HL0 HB2 HB3 HB23 HFEW HX4 HX3 HX0
  go_wp2_with fail
  go_loopw [18] (fun i wz=>∃j:Nat,j<=m/\i= .int .i64 j/\LT w0 g4 g3 wz xb (Gw (bl.take j))) (fun i _=>m-(intOf i).toNat)
  case atStart=>exact⟨0,O0,rfl,HL3.out⟩
  case round=>
   obtain⟨j,hj,rfl,hlx⟩:=hrel
   clear HL3
   by_cases hjm:j<m
   rotate_left
   ·have hj' : j = m := O0
    subst hj'
    rw[show bl.take j=bl by rw[HMM.out];exact List.take_length] at hlx
    obtain⟨hne,Z,uA,uF,HX5,hZ5,hbw5,hbox5,hri5,hx35⟩:=hlx
    obtain⟨⟨AA,cA,rfl,-,-⟩,AF,cF,rfl,-,-⟩:=hri5.slices
    obtain⟨x0,x1,-⟩:=hbox5.cells
    obtain⟨y0,y1,yf⟩:=hx35.cells
    have yf0:=yf 0;have yf1:=yf 1
    obtain⟨x,hx⟩:=Rm (Gw bl)
    rw[<-hx] at HX5 hri5
    rw[<-hx] at x0 x1
    obtain⟨nA,hnA⟩:∃n,n=x.all.length:=⟨_,rfl⟩
    obtain⟨nF,hnF⟩:∃n,n=x.flows.length:=⟨_,rfl⟩
    rw[<-hnA, <-hnF] at hri5
    rw[<-hnA] at x0
    rw[<-hnF] at x1
    obtain⟨W5,hW5⟩:=Rm (((wr.setCell ⟨g3,0,none⟩ (.slice AA nA cA)).setCell ⟨g3,1,none⟩ (.slice AF nF cF)).drew)
    have hc5:Chg (fun c=>c=g3) wr W5:=by rw[hW5];exact(UD _ _).trans (Chg.of_below (Da (Below.refl _ _)))
    have HX6:Hid (IBox W5 g3 (.slice AA nA cA) (.slice AF nF cF)):=U (by rw[hW5];exact IBox.set2 (w:=wr) hx35)
    have HB6:Hid (Below w0.heap.size w0 W5):=U (by
     have h:=hbw5
     exact h.trans (hc5.below h.size fun c e=>by have e:c=g3:=e;rw[e,hg3.out];exact Nat.le_refl _))
    have HXD:=HX5.chg (hc5.mono fun c e=> .inr e)
    have HAT:=U HXD
    have HRI:Hid (RIx (Ds Z W5) x (.slice AA nA cA) (.slice AF nF cF)):=U (by
     have hz:Chg Z wr W5:=hc5.mono fun c e=>HXD.ez (.inr e)
     exact hri5.leads hz.leads)
    have HZ5:=U hZ5
    have HXX:=U hx
    replace hW5:=U hW5
    clear yf hne HX5 hZ5 hbw5 hbox5 hri5 hx35 hc5 HXD hx hnA hnF
    go_wp2_with fail
    go_region
    go_wp2_with fail
    rw[<-hW5.out]
    (try simp only[Exit.inBlock,Exit.then])
    refine bodyPost_ret (v:= .tuple #[.pointer (some ⟨xb,0,none⟩),.agg #[.slice AA nA cA,.slice AF nF cF],.bool true]) ?_ rfl ⟨HB6.out,.inr ⟨HFB.out,xb,g4,g3,Z,_,_,rfl,by rw[<-HXX.out];exact HAT.out,HZ5.out,by rw[<-HXX.out];exact HRI.out⟩⟩
    obtain⟨z0,z1,-⟩:=HX6.out.cells
    simp[results,Tryz.results8,go_sem,z0,z1]
   have hjl:j<bl.length:=by have:=HMM.out;omega
   obtain⟨hne,Z,uA,uF,HX0,hZ,hbw,hbox,hri,hx3⟩:=hlx
   have hbts:=lx_bts HBT.out hbw hZ
   obtain⟨⟨AA,cA,rfl,-,-⟩,AF,cF,rfl,-,-⟩:=hri.slices
   obtain⟨b0,off,rfl,hblt,h3⟩:=hbts.at_ O0
   obtain⟨A2,c2,hfl,hat,hes,d0,d1,d2⟩:=h3 j hjl
   replace d0:=(Df _ _).cell d0;replace d1:=(Df _ _).cell d1;replace d2:=(Df _ _).cell d2
   have HNEXT:Hid (Gw (bl.take (j+1))=(DD (Gw (bl.take j)) bl[j]).2):=U (SB bl j hjl)
   have hgood:=Gx HLI.out j O0
   have htk:=HLI.out.take j hjl
   have hbin:=HLI.out.bin j hjl
   have hfo:=HFO.out j hjl
   obtain⟨b,hbj⟩:=Rm (bl[j])
   rw[<-hbj] at hfl hat hes d0 d1 d2 HNEXT htk hbin hfo
   have hclk0:(Gw (bl.take j)).clock<18446744073709551616:=clkX_lt (bts_lt HBT.out) j O0
   obtain⟨x,hx⟩:=Rm (Gw (bl.take j))
   rw[<-hx] at HNEXT HX0 hri hclk0 hgood
   rw[<-hx] at hbox
   obtain⟨W1,hW1⟩:=Rm (wr.alloc (.cells #[.string b.flow,.int .u64 (b.at':Nat),.slice A2 b.es.length c2] 64))
   have hb01:Below wr.heap.size wr W1:=by rw[hW1];exact Rl
   obtain⟨g8,hg8⟩:∃g,g=wr.heap.size:=⟨_,rfl⟩
   have hb8:BB W1 g8 b.flow b.at' A2 b.es.length c2:=by rw[hW1,hg8];exact heap_alloc_new wr _
   have HX1:=HX0.later hb01
   have hes1:=EvsIn.leads hes (Dt _ hb01)
   have hri1:=hri.leads (Dt _ hb01)
   have hbox1:=hbox.later hb01 hbox.lt
   have hx31:=hx3.later hb01 hx3.lt
   have HC1:=U (PU HX1 (T:=tot (bl.take j)) (NN:=j) hgood b A2 c2 hes1 hbin O0 (by have:=HLI.out.len;omega) hfl hat hclk0 hfo)
   have HG8:Hid (g8<W1.heap.size/\¬Z g8):=U ⟨hb8.lt,fun q=>by have:=HX0.zlt q;omega⟩
   have HBW1:Hid (Below w0.heap.size w0 W1):=U (hbw.trans (hb01.mono hbw.size))
   have HZ:=U hZ;have HB8:=U hb8;have HBOX1:=U hbox1;have HX31:=U hx31;have HRI1:=U hri1;have HES1:=U hes1
   have HGOOD:=U hgood;have HTK:=U htk;have HBIN:=U hbin;have HFL:=U hfl;have HAT:=U hat;have HNE:=U hne
   have HEB:Hid (∀W,W.heap[g8]?=W1.heap[g8]?->BB W g8 b.flow b.at' A2 b.es.length c2):=U fun W h=>h.trans hb8
   obtain⟨y0,y1,y2,-⟩:=hb8.cells
   clear hbts h3 hes hes1 hfl hat hri hri1 hbox hbox1 hx3 hx31 hb8 hb01 HX0 HX1 hZ hbw hblt hgood htk hbin hfo hclk0 hne
   replace hW1:=U hW1;replace hg8:=U hg8;replace hx:=U hx;replace hbj:=U hbj
   go_upto_region 8 with fail
   rw[<-hW1.out, <-hg8.out]
   clear d0 d1 d2
   go_wp2_with fail
   refine HC1.out.mono ?_
   rintro r w2 ⟨rfl,hchg,hke,Z',HX2,hZ'⟩
   have hl:=Uh hchg hZ'
   have hri2:RIx (Ds Z' w2) x (.slice AA x.all.length cA) (.slice AF x.flows.length cF):=HRI1.out.leads hl
   have hes2:=EvsIn.leads HES1.out hl
   have h8:w2.heap[g8]?=W1.heap[g8]?:=hchg.block g8 HG8.out.1 HG8.out.2
   have hbox2:IBox w2 g4 (.slice AA x.all.length cA) (.slice AF x.flows.length cF):=(hke g4 (.inl rfl)).trans HBOX1.out
   have hx32:IBox w2 g3 (.slice none 0 0) (.slice none 0 0):=(hke g3 (.inr rfl)).trans HX31.out
   have HC2:=U (Nb x _ _ b A2 c2 w2 (fun c q=>HX2.zlt q) hri2 (T:=tot (bl.take j)) (N:=j) HGOOD.out (by have:=HTK.out;omega) (by have:=HLI.out.len;omega) HBIN.out hes2 HFL.out HAT.out)
   have HBW2:Hid (Below w0.heap.size w0 w2):=U (HBW1.out.trans (hchg.below HBW1.out.size HZ.out))
   have HZ2:Hid (∀c,Z' c->w0.heap.size<=c):=U fun c q=>(hZ' c q).elim (HZ.out c) (fun e=>Nat.le_trans HBW1.out.size e)
   have HX2':=U HX2;have HBOX2:=U hbox2;have HX32:=U hx32
   obtain⟨q0,q1,-⟩:=hbox2.cells
   obtain⟨y0',y1',y2',-⟩:=(HEB.out w2 h8).cells
   clear hchg hke hZ' HX2 hl hri2 hes2 h8 hbox2 hx32 HC1 y0 y1 y2
   go_wp2_with fail
   refine HC2.out.mono ?_
   rintro r w3 ⟨hb3,uA1,uF1,rfl,hr3⟩
   obtain⟨⟨AA1,cA1,rfl,-,-⟩,AF1,cF1,rfl,-,-⟩:=hr3.slices
   rw[<-HNEXT.out] at hr3 ⊢
   obtain⟨y,hy⟩:=Rm (Gw (bl.take (j+1)))
   rw[<-hy] at hr3 ⊢
   obtain⟨nA1,hnA1⟩:∃n,n=y.all.length:=⟨_,rfl⟩
   obtain⟨nF1,hnF1⟩:∃n,n=y.flows.length:=⟨_,rfl⟩
   rw[<-hnA1, <-hnF1] at hr3
   rw[<-hnA1, <-hnF1]
   have hbox3:=HBOX2.out.later hb3 HBOX2.out.lt
   have hx33:=HX32.out.later hb3 HX32.out.lt
   obtain⟨W4,hW4⟩:=Rm ((w3.setCell ⟨g4,0,none⟩ (.slice AA1 nA1 cA1)).setCell ⟨g4,1,none⟩ (.slice AF1 nF1 cF1))
   have hc4:Chg (fun c=>c=g4) w3 W4:=by rw[hW4];exact UD _ _
   have HLT:Hid (LT w0 g4 g3 W4 xb y):=U (by
    have HX4:=(HX2'.out.later hb3).chg (hc4.mono fun c e=> .inl e)
    have hz:Chg Z' w3 W4:=hc4.mono fun c e=>HX4.ez (.inl e)
    refine⟨HNE.out,Z',_,_,?_,HZ2.out,?_,?_,hr3.leads hz.leads,?_⟩
    ·rw[hy,HNEXT.out];exact HX4
    ·have h := HBW2.out.trans (hb3.mono HBW2.out.size)
     exact h.trans (hz.below h.size HZ2.out)
    ·rw[hW4];exact hbox3.set2
    ·exact(hc4.block g3 hx33.lt fun e=>HNE.out e.symm).trans hx33)
   obtain⟨r0,r1,rf⟩:=hbox3.cells
   have rf0:=rf 0;have rf1:=rf 1
   have HY:=U hy
   replace hW4:=U hW4
   clear rf hb3 hr3 hbox3 hx33 hc4 hnA1 hnF1 hy q0 q1 y0' y1' y2'
   go_upto_region 10 with fail
   rw[<-hW4.out]
   go_wp2_with fail
   go_roundw
   case rel=>exact⟨j+1,O0,by go_num,by rw[<-HY.out];exact HLT.out⟩
   case measure=>simp[intOf];omega
open Hi (CIn Dx DP Dq)
attribute [local go_sem] Oper.semAt_some
variable {w w' : World}
theorem Tryz.infoRR : (Tryz.prog.info? 53).map (fun i=>(i.zero,i.size,i.bytes))=some (some (.agg #[.string ⟨#[]⟩,.int .u64 0,.int .i64 0,.int .u64 0]),4,40):=O2
theorem GD {rs:List RF}{A:Option Addr}{n c:Nat}(h:CIn w (.slice A n c) n 4 (rs.flatMap rfL))(hn:n=rs.length)(i:Nat)(hi:i<n):∃b off f id m at',A=some ⟨b,off,none⟩/\rs[i]?=some ⟨f,id,m,at'⟩/\b<w.heap.size/\
  w.cell? ⟨b,off+i*4,none⟩=some (.string f)/\w.cell? ⟨b,off+i*4+1,none⟩=some (.int .u64 (id:Nat))/\w.cell? ⟨b,off+i*4+2,none⟩=some (.int .i64 m)/\w.cell? ⟨b,off+i*4+3,none⟩=some (.int .u64 (at':Nat)):=by
 obtain⟨-,-,A',c',e,-,-,h6⟩:=h
 injection e with e1 _ _
 subst e1 hn
 obtain⟨b,off,q1,q2,q3⟩:=h6 O0
 obtain⟨r,hr⟩:=Rm (rs[i])
 obtain⟨f,id,m,at'⟩:=r
 have g:∀q,q<4->(rs.flatMap rfL)[i*4+q]?=(rfL rs[i])[q]?:=fun q hq=>Sc rs i q hi hq
 rw[<-hr] at g
 exact⟨b,off,f,id,m,at',q1,by rw[List.getElem?_eq_getElem hi, <-hr],q2,q3 (i*4) _ (g 0 O0),by rw[Nat.add_assoc];exact q3 _ _ (g 1 O0),by rw[Nat.add_assoc];exact q3 _ _ (g 2 O0),by rw[Nat.add_assoc];exact q3 _ _ (g 3 O0)⟩
open Cm (Gf)
attribute [local go_sem] Oper.semAt_some
def FoundR (now:Nat)(rs:List RF)(i:Int):Prop:=(i= -1/\∀m (h:m<rs.length),now<rs[m].at')\/∃n:Nat,i=n/\∃h:n<rs.length,rs[n].at'<=now/\∀m (h:m<rs.length),m<n->now<rs[m].at'
def Fz (now:Nat)(rs:List RF):List RF:=rs.filter fun r=>decide (now<r.at')
theorem M205 (h:p:=by
 unfold Fz;rw[List.take_succ_eq_append_getElem h,List.filter_append];simp[ho]):p:=h
theorem Ss {now:Nat}{rs:List RF}{j:Nat}(h:j<rs.length)(ho:rs[j].at'<=now):Fz now (rs.take (j+1))=Fz now (rs.take j):=by
 exact M205
theorem Yi {now:Nat}{rs:List RF}{j:Nat}(h:j<rs.length)(ho:now<rs[j].at'):Fz now (rs.take (j+1))=Fz now (rs.take j)++ [rs[j]]:=by
 exact M205
theorem Su {now:Nat}{rs:List RF}(h:∀m (h:m<rs.length),now<rs[m].at'):Fz now rs=rs:=by
 unfold Fz
 rw[List.filter_eq_self]
 intro e he
 obtain⟨m,hm,rfl⟩:=List.getElem_of_mem he
 exact decide_eq_true (h m hm)
theorem SM {now:Nat}{rs:List RF}{n:Nat}(hn:n<rs.length)(hp:rs[n].at'<=now)(h:∀m (h:m<rs.length),m<n->now<rs[m].at'):Fz now (rs.take (n+1))=rs.take n:=by
 rw[Ss hn hp]
 exact Su fun m hm=>by
  rw[List.length_take] at hm
  rw[List.getElem_take]
  exact h m O0 O0
theorem LJ (now:Nat)(rs:List RF):(Fz now rs).length<=rs.length:=List.length_filter_le _ _
theorem Ke (rs:List RF)(n:Nat)(hn:n=rs.length)(A:Option Addr)(c now nb:Nat)(w:World)(hin:CIn w (.slice A n c) n 4 (rs.flatMap rfL))(hnb:nb<w.heap.size)(hc:w.cell? ⟨nb,0,none⟩=some (.int .u64 (now:Nat)))(hle:n<=3000000000000) :
  Calls Tryz.prog 75 #[.slice A n c,.func (.func 44) #[] #[.pointer (some ⟨nb,0,none⟩)]] w fun r w'=>∃i,r= .returned (.int .i64 i)/\FoundR now rs i/\Below w.heap.size w w':=by
 have HIN:=U hin;have HN:=U hn;have HC0:=U hc;have HNB:=U hnb
 clear hin hn hc hnb
 go_enter Tryz.func75,Tryz.ntmps75
 go_wp2_with fail
 go_loopw [4,8] (fun o i wr=>∃(j:Nat),j<=n/\i= .int .i64 j/\o= .int .i64 0/\(∀m (h:m<rs.length),m<j->now<rs[m].at')/\Below w.heap.size w wr) (fun _ i _=>n-(intOf i).toNat)
 case atStart=>exact⟨0,O0,rfl,rfl,fun m _ h=>absurd h O0,Below.refl _ _⟩
 case round=>
  obtain⟨j,hj,rfl,rfl,hno,hb⟩:=hrel
  have HNO:=U hno;have HB:=U hb
  clear hno hb
  by_cases hlt:j<n
  ·have hltz : (j : Int) < (n : Int) := O0
   obtain⟨b,off,xf,xi,xn,xa,rfl,hr,hbl,y0,y1,y2,y3⟩:=GD (HIN.out.later HB.out) HN.out j hlt
   have hjr:j<rs.length:=by have:=HN.out;omega
   have hrj:rs[j]=⟨xf,xi,xn,xa⟩:=(List.getElem?_eq_some_iff.1 hr).2
   have HRJ:Hid (rs[j].at'=xa):=U (by rw[hrj])
   have HC:=U (VN xf xi xn xa now nb wr ((HB.out.cell (p:=⟨nb,0,none⟩) HNB.out).trans HC0.out) (Nat.lt_of_lt_of_le HNB.out HB.out.size))
   clear hr hrj
   by_cases hq:xa<=now
   ·have hd : decide (xa <= now) = true := by simpa using hq
    rw[hd] at HC
    clear hd
    go_wp2_with fail
    refine HC.out.mono ?_
    rintro x w1 ⟨rfl,hb1⟩
    have HB1:=U (HB.out.trans (hb1.mono HB.out.size))
    clear hb1 y0 y1 y2 y3 HC hbl
    go_wp2_with fail
    go_ret
    exact⟨_,rfl,.inr ⟨j,rfl,hjr,by rw[HRJ.out];exact hq,HNO.out⟩,HB1.out⟩
   ·have hd : decide (xa <= now) = false := by simpa using hq
    rw[hd] at HC
    clear hd
    go_wp2_with fail
    refine HC.out.mono ?_
    rintro x w1 ⟨rfl,hb1⟩
    have HB1:=U (HB.out.trans (hb1.mono HB.out.size))
    clear hb1 y0 y1 y2 y3 HC hbl
    go_wp2_with fail
    go_roundw
    case rel => exact ⟨j + 1, O0, by go_num, rfl, fun m h hm => by
     rcases Nat.lt_or_ge m j with q|q
     ·exact HNO.out m h q
     ·obtain rfl : m = j := O0
      rw[HRJ.out];omega,HB1.out⟩
    case measure=>simp[intOf];omega
  ·have hltz : ¬ (j : Int) < (n : Int) := O0
   obtain rfl:j=n:=O0
   go_wp2_with fail
   go_ret
   exact⟨_,rfl,.inl ⟨rfl,fun m h=>HNO.out m h (by have:=HN.out;omega)⟩,HB.out⟩
structure RRow (w : World) (r cap : Nat) (L R : List RF) (j : Nat) : Prop where
 le:j+R.length<=cap
 lj:L.length<=j
 cap_le:cap<=maxLen
 blk:∃cur,w.heap[r]?=some (.cells cur 57 (0,0))/\cur.size=cap*4/\(∀q,q<L.length*4->cur[q]?=(L.flatMap rfL)[q]?)/\∀q,q<R.length*4->cur[j*4+q]?=(R.flatMap rfL)[q]?
theorem RRow.lt {r cap j:Nat}{L R:List RF}(h:RRow w r cap L R j):r<w.heap.size:=by
 obtain⟨cur,h1,-⟩:=h.blk
 exact(Array.getElem?_eq_some_iff.1 h1).1
theorem RRow.later {r cap j:Nat}{L R:List RF}(h:RRow w r cap L R j)(hb:Below w.heap.size w w'):RRow w' r cap L R j:=by
 have hl:=h.lt
 obtain⟨h1,h2,h3,cur,h5,h6⟩:=h
 exact⟨h1,h2,h3,cur,(hb.block r hl).trans h5,h6⟩
theorem rfs_take (rs:List RF)(n q:Nat)(hn:n<=rs.length)(hq:q<n*4):((rs.take n).flatMap rfL)[q]?=(rs.flatMap rfL)[q]?:=by
 have e:rs.flatMap rfL=(rs.take n).flatMap rfL++(rs.drop n).flatMap rfL:=by rw[<-List.flatMap_append,List.take_append_drop]
 rw[e,List.getElem?_append_left]
 rw[FP,List.length_take];omega
theorem UI (rs:List RF)(n q:Nat)(hn:n<=rs.length):((rs.drop n).flatMap rfL)[q]?=(rs.flatMap rfL)[n*4+q]?:=by
 have e:rs.flatMap rfL=(rs.take n).flatMap rfL++(rs.drop n).flatMap rfL:=by rw[<-List.flatMap_append,List.take_append_drop]
 have hl:((rs.take n).flatMap rfL).length=n*4:=by rw[FP,List.length_take];omega
 rw[e,List.getElem?_append_right O0,hl]
 congr 1
 omega
theorem RRow.start {base r cap:Nat}{rs:List RF}{N:Nat}(hN:N=rs.length)(h:w.ownsRow base 57 4 (.slice (some ⟨r,0,none⟩) N cap) N (rs.flatMap rfL))(j n:Nat)(hj:j<=rs.length)(hn:n<=j):RRow w r cap (rs.take n) (rs.drop j) j:=by
 rcases h.2 with ⟨h2,-⟩|⟨r',cp,cur,q1,q2,q3,q4,q5,q6,q7⟩
 ·cases h2
 ·cases q1
  have hx:∀q,q<rs.length*4->cur[q]?=(rs.flatMap rfL)[q]?:=fun q hq=>by rw[<-q7,List.getElem?_take_of_lt O0,Array.getElem?_toList]
  refine⟨by rw[List.length_drop];omega,by rw[List.length_take];omega,q5,cur,q3,q6,fun q hq=> ?_,fun q hq=> ?_⟩
  ·rw [List.length_take] at hq
   rw[hx q O0,rfs_take rs n q O0 O0]
  ·rw [List.length_drop] at hq
   rw[hx _ O0,UI rs j q hj]
theorem RRow.cells {r cap j:Nat}{L R:List RF}(h:RRow w r cap L R j)(hp:0<R.length):(∀q,q<4->w.cell? ⟨r,j*4+q,none⟩=(rfL R[0])[q]?)/\(∀o,o<cap*4->∃u,w.cell? ⟨r,o,none⟩=some u)/\∀o,w.frozen? ⟨r,o,none⟩=false:=by
 obtain⟨cur,h1,h2,-,h4⟩:=h.blk
 refine⟨fun q hq=> ?_,fun o ho=> ?_,fun o=>by simp[World.frozen?,h1]⟩
 ·have := h4 q O0
  have e:=Sc R 0 q hp hq
  rw[Nat.zero_mul,Nat.zero_add] at e
  rw[<-e, <-this]
  simp[World.cell?,h1]
 ·refine ⟨cur[o]'O0, ?_⟩
  simp[World.cell?,h1,Array.getElem?_eq_getElem (show o<cur.size by omega)]
theorem Sy {r:Nat}{t:TypeId}:∀(vs:List Value) (o:Nat) (w:World) (cur:Array Value),w.heap[r]?=some (.cells cur t (0,0))->∃cur',(w.setCells r o vs).heap[r]?=some (.cells cur' t (0,0))/\∀q,o+vs.length<=q->cur'[q]?=cur[q]?:=fun vs=>by
 induction vs with
 | nil=>intro o w cur h;exact⟨cur,h,fun _ _=>rfl⟩
 | cons v vs ih=>
  intro o w cur h
  have h1:(w.setCell ⟨r,o,none⟩ v).heap[r]?=some (.cells (cur.setIfInBounds o v) t (0,0)):=by simp[World.setCell,Array.getElem?_modify,h]
  obtain⟨cur',z1,z2⟩:=ih (o+1) _ _ h1
  refine⟨cur',z1,fun q hq=> ?_⟩
  simp only[List.length_cons] at hq
  rw[z2 q O0,Array.getElem?_setIfInBounds,if_neg O0]
theorem Gq {r : Nat} : ∀ (vs : List Value) (o : Nat) (w w' : World) (base : Nat), Below base w w' -> base <= r -> Below base w (w'.setCells r o vs)
 | [],_,_,_,_,h,_=>h
 | v::vs,o,w,w',base,h,hr=>Gq vs (o+1) w (w'.setCell ⟨r,o,none⟩ v) base (h.setCell (p:=⟨r,o,none⟩) hr v) hr
theorem OU {r : Nat} : ∀ (vs : List Value) (o : Nat) (w : World), (w.setCells r o vs).heap.size = w.heap.size
 | [],_,_=>rfl
 | v::vs,o,w=>(OU vs (o+1) (w.setCell ⟨r,o,none⟩ v)).trans (by simp[World.setCell])
theorem RRow.keepOne {r cap j:Nat}{L R:List RF}(h:RRow w r cap L R j)(hp:0<R.length):RRow (w.setCells r (L.length*4) (rfL R[0])) r cap (L++ [R[0]]) (R.drop 1) (j+1):=by
 obtain⟨k2,k3,k4,cur,k5,k6,k7,k8⟩:=h
 have hlen:(rfL R[0]).length=4:=rfl
 obtain⟨l,hl⟩:=Rm (rfL R[0])
 rw[<-hl] at hlen ⊢
 obtain⟨cur',c1,c2,c3,c4⟩:=Gf l (L.length*4) w cur k5 (by rw[hlen,k6];omega)
 have c5:∀q,L.length*4+4<=q->cur'[q]?=cur[q]?:=by
  intro q hq
  obtain⟨cur'',z1,z2⟩:=Sy l (L.length*4) w cur k5
  rw[c1] at z1
  injection z1 with z1
  injection z1 with z1
  subst z1
  exact z2 q (by rw[hlen];omega)
 refine⟨by rw[List.length_drop];omega,by rw[List.length_append,List.length_singleton];omega,k4,cur',c1,c2.trans k6,fun q hq=> ?_,fun q hq=> ?_⟩
 ·rw [List.length_append, List.length_singleton] at hq
  rw[List.flatMap_append]
  have hL:=FP L
  by_cases q1:q<L.length*4
  ·rw[c3 q q1,k7 q q1,List.getElem?_append_left O0]
  ·obtain ⟨p, rfl⟩ : ∃ p, q = L.length * 4 + p := ⟨q - L.length * 4, O0⟩
   rw[c4 p O0,List.getElem?_append_right O0,hL,Nat.add_sub_cancel_left]
   simp only[List.flatMap_cons,List.flatMap_nil,List.append_nil]
   rw[<-hl,List.getElem?_eq_getElem]
 ·rw [List.length_drop] at hq
  rw[c5 _ O0,UI R 1 q O0, <-k8 (1*4+q) O0]
  congr 1
  omega
theorem RRow.dropOne {r cap j:Nat}{L R:List RF}(h:RRow w r cap L R j)(hp:0<R.length):RRow w r cap L (R.drop 1) (j+1):=by
 obtain⟨k2,k3,k4,cur,k5,k6,k7,k8⟩:=h
 refine⟨by rw[List.length_drop];omega,O0,k4,cur,k5,k6,k7,fun q hq=> ?_⟩
 rw[List.length_drop] at hq
 rw[UI R 1 q O0, <-k8 (1*4+q) O0]
 congr 1
 omega
theorem RRow.cleared {r cap j:Nat}{L R:List RF}(h:RRow w r cap L R j)(vs:List Value)(hv:L.length*4+vs.length<=cap*4):CIn (w.setCells r (L.length*4) vs) (.slice (some ⟨r,0,none⟩) L.length cap) L.length 4 (L.flatMap rfL):=by
 obtain⟨k2,k3,k4,cur,k5,k6,k7,k8⟩:=h
 obtain⟨cur',c1,c2,c3,c4⟩:=Gf vs (L.length*4) w cur k5 O0
 refine⟨FP L,FC L,_,cap,rfl,O0,k4,fun _=>⟨r,0,rfl,(Array.getElem?_eq_some_iff.1 c1).1,fun p x hx=> ?_⟩⟩
 have hp:p<L.length*4:=by
  have:=(List.getElem?_eq_some_iff.1 hx).1
  rwa [FP] at this
 rw[Nat.zero_add]
 rw[<-k7 p hp, <-c3 p hp] at hx
 simp[World.cell?,c1,hx]
theorem UG (w:World)(ty:TypeId)(b o n c:Nat)(hn:0<n)(hc:∀j,j<n*4->∃u,w.cell? ⟨b,o+j,none⟩=some u)(hf:∀j,w.frozen? ⟨b,j,none⟩=false) :
  ∃vs:List Value,vs.length=n*4/\(Builtin.clear_ #[48] ty #[.slice (some ⟨b,o,none⟩) n c]).run Tryz.prog w= .ok (.tuple #[]) (w.setCells b o vs):=by
 have t:=Tryz.underlying48
 have hv:=Tryz.zeroValue57
 obtain⟨zc,hzc⟩:=Rm ((Value.agg #[.string ⟨#[]⟩,.int .u64 0,.int .i64 0,.int .u64 0]).cells:Array Value)
 have hz4:zc= #[.string ⟨#[]⟩,.int .u64 0,.int .i64 0,.int .u64 0]:=by rw[hzc];kernel_rfl
 have hsz:(Builtin.zeroCells zc n).toList.length=n*4:=by rw[hz4];simp[Builtin.zeroCells]
 have hone:∀v∈(Builtin.zeroCells zc n).toList,v.oneCell'=true:=by
  intro v hv'
  rw[hz4] at hv'
  simp[Builtin.zeroCells] at hv'
  obtain⟨i,hi,rfl⟩:=hv'
  rcases (by omega:i%4=0\/i%4=1\/i%4=2\/i%4=3) with q|q|q|q<;>simp[q]<;>rfl
 have hst:=run_storeCells_cells (P:=Tryz.prog) b o (Builtin.zeroCells zc n).toList 0 w (fun j hj=>by
   rw[hsz] at hj
   obtain⟨u,hu⟩:=hc j hj
   rw[Nat.add_zero,hu];rfl) (fun j _=>hf _) hone
 simp only[Nat.add_zero] at hst
 refine⟨_,hsz,?_⟩
 obtain⟨m,rfl⟩:∃m,n=m+1:=⟨n-1,O0⟩
 simp only[Builtin.clear_,Sem.run_bind,Sem.run_pure,Result.andThen_ok,List.getElem?_toArray,List.getElem?_cons_zero,run_underlying t,hv]
 rw[<-hzc]
 simp[hst]
end Ta
end Go.Proofs.YtaahfiopdoinkaaGreat
