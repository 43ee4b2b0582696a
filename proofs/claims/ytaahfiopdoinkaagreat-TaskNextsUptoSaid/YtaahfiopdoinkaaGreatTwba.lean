/- The reference's history: Add. -/
import Derived.Laws.Rows
import Derived.Laws.IdiomRangeMap
import Derived.Test.YtaahfiopdoinkaaGreatTwaw
import Derived.Test.YtaahfiopdoinkaaGreatTway
import Derived.Test.YtaahfiopdoinkaaGreatTwaj
import Derived.Test.YtaahfiopdoinkaaGreatTwaq
import Derived.Test.YtaahfiopdoinkaaGreatTwaz
import Derived.Test.YtaahfiopdoinkaaGreatTwas
import Derived.Test.YtaahfiopdoinkaaGreatTwan
set_option maxRecDepth 100000
variable {p : Prop}
set_option linter.unusedVariables false
set_option linter.unusedSimpArgs false
open Go.RowKit
namespace Go.Proofs.YtaahfiopdoinkaaGreat
namespace Hi
open _root_.Go.Proofs.YtaahfiopdoinkaaGreat.Nm (Dk De)
open _root_.Go.Proofs.YtaahfiopdoinkaaGreat.Rd (PD Vg KJ)
open Vt (VT Rep Da DX DY)
open Ev (EV Dj Db Dn EBox take_drop tk ap rd1 rd2 Dh)
open Cm (rowOf EvsIn)
open Cn (BT BB BtsIn Gs DH)
variable {X X' Y Y' : Nat -> Prop} {u v w w' V V' : World} {hb bt bm bk n cap : Nat} {A : Option Addr} {h : HM}
def Rb (X:Nat->Prop)(hm:HM)(b:BT)(w:World)(r:Ending)(w':World):Prop:=Below w.heap.size w w'/\∃ub uk ut um,r= .returned (.tuple #[.agg (rhC hm.flow ub (Du hm b).2.s.closed (Du hm b).2.s.next uk ut um),.int .i64 (Du hm b).1])/\RH (Ds X w') (Du hm b).2 ub uk ut um
theorem kind1_of (b:BT)(hp:0<b.es.length):Oo b=b.es[0].k:=by
 exact M195
theorem VU {s:ST}(hf:OQ s):s.tasks.length<=s.next/\s.timers.length<=s.next:=by
 constructor
 ·have h1 := Gk (s.tasks.map (·.id)) 0 s.next (by rw [List.pairwise_map]; exact hf.tasks) fun x hx => by
   obtain⟨t,ht,rfl⟩:=List.mem_map.1 hx
   exact⟨Nat.zero_le _,hf.below t ht⟩
  rw[List.length_map] at h1;omega
 ·have h1 := Gk (s.timers.map (·.1)) 0 s.next (by rw [List.pairwise_map]; exact hf.timers) fun x hx => by
   obtain⟨t,ht,rfl⟩:=List.mem_map.1 hx
   exact⟨Nat.zero_le _,hf.belowT t ht⟩
  rw[List.length_map] at h1;omega
theorem RX.set1 {g:Nat}{f:ByteArray}{ub uk ut um v:Value}{cl:Int}{nx:Nat}(h:RX w g f ub cl nx uk ut um):RX (w.setCell ⟨g,1,none⟩ v) g f v cl nx uk ut um:=by
 exact M87
theorem valid_of {es:List EV}(h:es.any DH=false)(i:Nat)(hi:i<es.length):es[i].valid=true:=by
 have:=List.any_eq_false.1 h _ (List.getElem_mem hi)
 simpa[DH] using this
theorem RX.seven {g:Nat}{f f':ByteArray}{ub uk ut um ub' uk' ut' um':Value}{cl cl':Int}{nx nx':Nat}(h:RX w g f ub cl nx uk ut um):RX (((((((w.setCell ⟨g,0,none⟩ (.string f')).setCell ⟨g,1,none⟩ ub').setCell ⟨g,2,none⟩ (.int .i64 cl')).setCell ⟨g,3,none⟩ (.int .u64 (nx':Nat))).setCell ⟨g,4,none⟩ uk').setCell ⟨g,5,none⟩ ut').setCell ⟨g,6,none⟩ um') g f' ub' cl' nx' uk' ut' um':=by
 exact M87
structure CL (X : Nat -> Prop) (w : World) (g8 : Nat) (ff : ByteArray) (Bu : Option Addr) (L cu : Nat) (b : BT) (s0 : ST) (k : Nat) (o : Option ST) (cl : Int) (nx : Nat) (uk ut um : Value) : Prop where
 box:RX w g8 ff (.slice Bu L cu) cl nx uk ut um
 am:AtM b.at' b.es s0 k o
 st:∀s',o=some s'->cl=s'.closed/\nx=s'.next/\RS (Ds (fun c=>X c\/c=g8) w) s' uk ut um/\OQ s'/\s'.next<=s0.next+k/\s'.keys.length<=s0.keys.length+k
theorem Q292.Y286 (h:p:=by
 clear qf hx6 hq6 hbF0
 rw[<-hw6]
 clear hw6
 go_wp2_with fail
 refine bodyPost_ret (v:= .tuple #[.agg #[.string ff,.slice Ar (L+1) cr,.int .i64 cl2,.int .u64 (nx2:Nat),.slice Ak2 nk2 ck2,.slice Aq2 nt2 ct2,.slice Am2 nm2 cm2],.int .i64 0]) (by simp[results,Tryz.results50,go_sem,q0,q1,q2,q3,q4,q5,q6]) rfl ?_
 obtain⟨W7,hW7⟩:=Rm (((((((w6.setCell ⟨w.heap.size+1+1,0,none⟩ (.string ff)).setCell ⟨w.heap.size+1+1,1,none⟩ (.slice Ar (L+1) cr)).setCell ⟨w.heap.size+1+1,2,none⟩ (.int .i64 cl2)).setCell ⟨w.heap.size+1+1,3,none⟩ (.int .u64 (nx2:Nat))).setCell ⟨w.heap.size+1+1,4,none⟩ (.slice Ak2 nk2 ck2)).setCell ⟨w.heap.size+1+1,5,none⟩ (.slice Aq2 nt2 ct2)).setCell ⟨w.heap.size+1+1,6,none⟩ (.slice Am2 nm2 cm2))
 rw[<-hW7]
 exact HOUT.out cF W7 Ar cr HOF.out HBRF.out HBF.out (by rw[hW7];exact Fk (g:=w.heap.size+1+1) HB6.out (Nat.le_succ_of_le (Nat.le_succ _)) _ _ _ _ _ _ _) (by rw[hW7];simp[World.setCell,HW6.out]) (fun r h1 h2=>by rw[hW7,GR h2,HW6.out];exact RowKit.Below.heap_setCell _ _ _ _ h1)):p:=h
theorem Q613.Y609 (h:p:=by
 clear hHeldZ cx fx tx
 obtain⟨w6,hw6⟩:=Rm (cF.setCell ⟨g8,1,none⟩ (.slice Ar (L+1) cr))
 have hbF0:Below W0.heap.size W0 cF:=HBu1.out _ HBF.out
 have hx6:RX w6 g8 ff (.slice Ar (L+1) cr) cl2 nx2 (.slice Ak2 nk2 ck2) (.slice Aq2 nt2 ct2) (.slice Am2 nm2 cm2):=by rw[hw6];exact(HG8X.out cF HBF.out).set1
 have hq6:RX w6 (w.heap.size+1+1) ⟨#[]⟩ (.slice none 0 0) 0 0 (.slice none 0 0) (.slice none 0 0) (.slice none 0 0):=by rw[hw6];exact(HX.out cF hbF0).2.2.far (by have:=HG8.out.1;have:=HS0.out;omega)
 have HB6:Hid (Below w.heap.size w w6):=U (by rw[hw6];exact(HBW.out cF hbF0).setCell (p:=⟨g8,1,none⟩) (by have:=HG8.out.1;have:=HS0.out;show w.heap.size<=g8;omega) _)
 have HW6:=U hw6
 obtain⟨z0,z1,z2,z3,z4,z5,z6,-⟩:=hx6.cells
 obtain⟨q0,q1,q2,q3,q4,q5,q6,qf⟩:=hq6.cells
 open Q292 in exact OT):p:=h
theorem Q400.Y397 (h:p:=by
 refine tk 7 rfl ?_
 obtain⟨cx,fx,tx⟩:=HCX.out cF HBF.out
 refine rd1 8 rfl fun K hK=> ?_
 open Q613 in exact M609):p:=h
theorem M3 (h:p:=by
 try simp only[ap]
 refine rd1 6 rfl fun K hK=> ?_
 refine Dd zw01A rfl _ _ 22 64 rfl i0 _ 3 48 Tryz.underlying22 HSZ.out hi0 hz0 hz1 hz2 rfl O1 u0.heap.size v1 (.slice (some ⟨ib,0,none⟩) 1 1) L 1 xs (#[Value.string ff,.int .u64 (at':Nat),.slice (some ⟨eb,eo,none⟩) q cap]:Array Value).toList rfl rfl own1_01A.out one_01A.out (by simp only[maxLen];omega) O0 HB01A.out.size ?_
 open Q400 in exact M397):p:=h
theorem Q395.Y392 (h:p:=by
 clear hK K hH01L
 exact M3):p:=h
theorem M22 (h:p:=by
 refine rd1 3 rfl fun K hK=> ?_
 refine Dd zw01 rfl _ _ 22 64 rfl i0 _ 3 48 Tryz.underlying22 HSZ.out hi0 hz0 hz1 hz2 rfl O1 u0.heap.size (.slice (some ⟨ia,0,none⟩) 0 0) (.slice Bu L cu) 0 L [] xs rfl rfl own0_01.out (HIN.out _ HB01.out) (by simp only[maxLen];omega) O0 HB01.out.size ?_
 open Q395 in exact M392):p:=h
theorem Q587.Y584 (h:p:=by
 clear hK K hH0AL
 exact M3):p:=h
theorem Q417.Y414 (h:p:=by
 have one_01A:Hid (CIn zw01A (.slice (some ⟨ib,0,none⟩) 1 1) 1 3 (#[Value.string ff,.int .u64 (at':Nat),.slice (some ⟨eb,eo,none⟩) q cap]:Array Value).toList):=U (by rw[hc01A,hib];exact CIn.new zw0A _ _ rfl HONE.out)
 open Q587 in exact M584):p:=h
theorem Q366.Y361 (h:p:=by
 refine rd1 5 rfl fun K hK=> ?_
 go_simp
 obtain⟨zw01A,hc01A⟩:∃u,u=zw0A.alloc (.cells (#[Value.string ff,.int .u64 (at':Nat),.slice (some ⟨eb,eo,none⟩) q cap]:Array Value) 64):=⟨_,rfl⟩
 open Q417 in exact M414):p:=h
theorem Q424.Y419 (h:p:=by
 refine hK.out _ _ (HKS.out _ HB01.out) (fun hH01L=> ?_)
 clear hK K hH0L
 try simp only[ap]
 exact M22):p:=h
theorem Q334.Y329 (h:p:=by
 have one_01:Hid (CIn zw01 (.slice (some ⟨ib,0,none⟩) 1 1) 1 3 (#[Value.string ff,.int .u64 (at':Nat),.slice (some ⟨eb,eo,none⟩) q cap]:Array Value).toList):=U (by rw[hc01,hib];exact CIn.new zw0 _ _ rfl HONE.out)
 open Q424 in exact Jr):p:=h
theorem M27 (h:p:=by
 refine rd2 3 5 rfl rfl (fun K hK=> ?_) fun K hK=> ?_
 ·refine Dd zw0 rfl _ _ 22 64 rfl i0 _ 3 48 Tryz.underlying22 HSZ.out hi0 hz0 hz1 hz2 rfl O1 u0.heap.size (.slice (some ⟨ia, 0, none⟩) 0 0) (.slice Bu L cu) 0 L [] xs rfl rfl own0_0.out (HIN.out _ HB0.out) (by simp only [maxLen]; omega) O0 HB0.out.size ?_
  open Q366 in exact Ri
 ·go_simp
  obtain⟨zw01,hc01⟩:∃u,u=zw0.alloc (.cells (#[Value.string ff,.int .u64 (at':Nat),.slice (some ⟨eb,eo,none⟩) q cap]:Array Value) 64):=⟨_,rfl⟩
  open Q334 in exact Jt):p:=h
theorem Q507.Y502 (h:p:=by
 replace hia:=U hia
 exact Y305):p:=h
theorem Q385.Y380 (h:p:=by
 have own0_01:Hid (zw01.ownsRow u0.heap.size 64 3 (.slice (some ⟨ia,0,none⟩) 0 0) 0 []):=U (by rw[hc01,hia];exact World.ownsRow_lit zw1 #[] 0 HB1.out.size (Nat.zero_le _) O3)
 open Q507 in exact M502):p:=h
theorem M305 (h:p:=by
 go_simp
 obtain⟨zw01,hc01⟩:∃u,u=zw1.alloc (.cells #[] 64):=⟨_,rfl⟩
 open Q385 in exact M380):p:=h
theorem Q306.Y305 (h:p:=by
 refine hK.out _ _ (HKS.out _ HB01.out) (fun hH01L=> ?_)
 clear hK K hH1L
 try simp only[ap]
 exact M22):p:=h
theorem M44 (h:p:=by
 refine rd1 0 rfl fun K hK=> ?_
 open Q306 in exact M305):p:=h
theorem M618 (h:p:=by
 go_wp2_with fail
 refine bodyPost_ret (v:= .tuple #[.agg #[.string ff,.slice Bu L cu,.int .i64 0,.int .u64 (nx:Nat),.slice Ak nk ck,.slice Aq nt ct,.slice Am nm cm],.int .i64 12]) (by simp[results,Tryz.results50,go_sem,q0,q1,q2,q3,q4,q5,q6]) rfl ?_
 exact Y618):p:=h
theorem Q620.Y618 (h:p:=by
 exact HBAD.out 12 HA2.out O1 wr HBQ.out _ _ _ _ _ _ _):p:=h
theorem Q303.Y286 (h:p:=by
 clear qf
 simp only[Option.isSome_none]
 open Q620 in exact M618):p:=h
theorem M54 (h:p:=by
 have HA2:Hid ((Du hm b).1=12):=U (by rw[HAD.out,HRUN.out,atM_none HCQ.out.am])
 obtain⟨x0,x1,x2,x3,x4,x5,x6,-⟩:=(HX.out wr HBQ.out).1.cells
 obtain⟨q0,q1,q2,q3,q4,q5,q6,qf⟩:=(HX.out wr HBQ.out).2.2.cells
 open Q303 in exact OT):p:=h
theorem Q619.Y618 (h:p:=by
 exact HBAD.out 12 HA2.out O1 wr HBK.out _ _ _ _ _ _ _):p:=h
theorem M70 (h:p:=by
 have HA2:Hid ((Du hm b).1=12):=U (by rw[HAD.out,show runM b.at' b.es true hm.s=none from Yy b.es 0 hm.s ⟨k,hke,HNE.out⟩])
 clear z a HNE
 generalize b.es[k].k=kk at *
 open Q619 in exact M618):p:=h
theorem M739 (h:p:=by
 go_wp2_with fail
 refine bodyPost_ret (v:= .tuple #[.agg #[.string hw,.slice Bu L cu,.int .i64 cl,.int .u64 (nx:Nat),.slice Ak nk ck,.slice Aq nt ct,.slice Am nm cm],.int .i64 2]) (by simp[results,Tryz.results50,go_sem,q0,q1,q2,q3,q4,q5,q6]) rfl ?_
 exact Y739):p:=h
theorem Q740.Y739 (h:p:=by
 exact HBAD.out 2 HA2.out O1 W0 (Below.refl _ _) _ _ _ _ _ _ _):p:=h
theorem M90 (h:p:=by
 clear h1
 open Q740 in exact M739):p:=h
theorem Q621.Y618 (h:p:=by
 exact HBAD.out 12 HA2.out O1 w5 HB5.out _ _ _ _ _ _ _):p:=h
theorem M97 (h:p:=by
 open Q621 in exact M618):p:=h
theorem Q547.Y544 (h:p:=by
 clear cx
 exact M22):p:=h
theorem M121 (h:p:=by
 open Q547 in exact M544):p:=h
theorem M143 (h:p:=by
 clear z a
 generalize b.es[k].k=kk at *
 go_wp2_with fail
 go_roundw
 case rel=>exact⟨k+1,O0,by go_num,rfl,HR.out,HBK.out⟩
 case measure=>simp[intOf];omega):p:=h
theorem M199 (h:p:=by
 obtain⟨a0,a1,a2,-⟩:=(HX.out W (HBu1.out W hW)).2.1.cells
 exact⟨a0,a1,a2⟩):p:=h
theorem M494 (h:p:=by
 have own0_0:Hid (zw0.ownsRow u0.heap.size 64 3 (.slice (some ⟨ia,0,none⟩) 0 0) 0 []):=U (by rw[hc0,hia];exact World.ownsRow_lit u0 #[] 0 HBu.out.size (Nat.zero_le _) O3)
 clear hbz
 replace hc0:=U hc0
 replace hia:=U hia
 exact Y494):p:=h
theorem Q600.Y595 (h:p:=by
 clear cx
 exact M27):p:=h
theorem Q425.Y419 (h:p:=by
 refine hK.out _ _ (HKS.out _ HB01.out) (fun hH01=> ?_)
 clear hK K hH0
 exact M121):p:=h
theorem Q335.Y329 (h:p:=by
 have one_01:Hid (CIn zw01 (.slice (some ⟨ib,0,none⟩) 1 1) 1 3 (#[Value.string ff,.int .u64 (at':Nat),.slice (some ⟨eb,eo,none⟩) q cap]:Array Value).toList):=U (by rw[hc01,hib];exact CIn.new zw0 _ _ rfl HONE.out)
 open Q425 in exact Jr):p:=h
theorem Q495.Y494 (h:p:=by
 refine hK.out _ _ (HKS.out _ HB0.out) (fun hH0=> ?_)
 clear hK K hHeld
 try simp only[ap]
 refine rd2 2 5 rfl rfl (fun K hK=> ?_) fun K hK=> ?_
 ·open Q600 in exact Rg
 ·go_simp
  obtain⟨zw01,hc01⟩:∃u,u=zw0.alloc (.cells (#[Value.string ff,.int .u64 (at':Nat),.slice (some ⟨eb,eo,none⟩) q cap]:Array Value) 64):=⟨_,rfl⟩
  open Q335 in exact Jt):p:=h
theorem Q268.Y264 (h:p:=by
 open Q495 in exact M494):p:=h
theorem Q496.Y494 (h:p:=by
 refine hK.out _ _ (HKS.out _ HB0.out) (fun hH0L=> ?_)
 clear hK K hHL
 try simp only[ap]
 exact M27):p:=h
theorem Q269.Y264 (h:p:=by
 open Q496 in exact M494):p:=h
theorem Q288.Y286 (h:p:=by
 clear qf
 exact M97):p:=h
theorem Q741.Y739 (h:p:=by
 exact HBAD.out 2 HA2.out O1 w1 HB1.out _ _ _ _ _ _ _):p:=h
theorem Q302.Y286 (h:p:=by
 clear qf
 open Q741 in exact M739):p:=h
theorem Q308.Y305 (h:p:=by
 refine hK.out _ _ (HKS.out _ HB01.out) (fun hH01=> ?_)
 clear hK K hH1
 exact M121):p:=h
theorem Q745.Y742 (h:p:=by
 try simp only[ap]
 exact M44):p:=h
theorem Q357.Y352 (h:p:=by
 have one_1:Hid (CIn zw1 (.slice (some ⟨ib,0,none⟩) 1 1) 1 3 (#[Value.string ff,.int .u64 (at':Nat),.slice (some ⟨eb,eo,none⟩) q cap]:Array Value).toList):=U (by rw[hc1,hib];exact CIn.new u0 _ _ rfl HONE.out)
 open Q745 in exact M742):p:=h
theorem Q679.Y676 (h:p:=by
 clear cx
 exact M44):p:=h
theorem Q696.Y693 (h:p:=by
 refine rd2 0 2 rfl rfl (fun K hK=> ?_) fun K hK=> ?_
 ·open Q308 in exact M305
 ·open Q679 in exact M676):p:=h
theorem Q358.Y352 (h:p:=by
 have one_1:Hid (CIn zw1 (.slice (some ⟨ib,0,none⟩) 1 1) 1 3 (#[Value.string ff,.int .u64 (at':Nat),.slice (some ⟨eb,eo,none⟩) q cap]:Array Value).toList):=U (by rw[hc1,hib];exact CIn.new u0 _ _ rfl HONE.out)
 open Q696 in exact M693):p:=h
theorem Q516.Y514 (h:p:=by
 refine tk 17 rfl ?_
 refine wpAnyH_done O2 ?_ _
 refine NoPanic.normal ?_
 clear hHeld2
 have HB5:Hid (Below W0.heap.size W0 w5):=U (HB.out.trans (HQ5.out.mono HB.out.size))
 obtain⟨x0,x1,x2,x3,x4,x5,x6,-⟩:=(HX.out w5 HB5.out).1.cells
 obtain⟨y0,y1,y2,-⟩:=(HX.out w5 HB5.out).2.1.cells
 obtain⟨q0,q1,q2,q3,q4,q5,q6,qf⟩:=(HX.out w5 HB5.out).2.2.cells
 open Q288 in exact OT):p:=h
theorem Q568.Y563 (h:p:=by
 refine rd2 0 5 rfl rfl (fun K hK=> ?_) fun K hK=> ?_
 ·go_simp
  obtain⟨zw0,hc0⟩:∃u,u=u0.alloc (.cells #[] 64):=⟨_,rfl⟩
  open Q269 in exact KP
 ·go_simp
  obtain⟨zw1,hc1⟩:∃u,u=u0.alloc (.cells (#[Value.string ff,.int .u64 (at':Nat),.slice (some ⟨eb,eo,none⟩) q cap]:Array Value) 64):=⟨_,rfl⟩
  open Q357 in exact Js):p:=h
theorem Q663.Y660 (h:p:=by
 clear qf
 by_cases hkl:k<j
 ·have hke : k < b.es.length := by have := HM.out; omega
  obtain⟨b2,off2,lo,hi,vk,vn,vf,vs,A2,m2,c2,heq,hbl2,-,-,-,e0,-⟩:=(HEV.out wr HBK.out).get k hke
  cases heq
  by_cases z:k=0
  ·have kz : ((k : Int) == 0) = true := by simp; omega
   by_cases a:b.es[k].k<=6
   ·have ka : decide (b.es[k].k <= 6) = true := decide_eq_true a
    have HR:Hid (∀q (hq:q<b.es.length),q<k+1->decide (b.es[q].k<=6)=decide (q=0)):=U fun q hq hlq=>by
     by_cases e:q=k
     ·subst e;rw[ka,decide_eq_true z]
     ·exact HALL.out q hq O0
    exact M143
   ·have ka : decide (b.es[k].k <= 6) = false := decide_eq_false a
    have HNE:Hid (decide (b.es[k].k<=6)≠decide (0+k=0)):=U (by rw[ka,decide_eq_true (by omega:0+k=0)];decide)
    exact M70
  ·have kz : ((k : Int) == 0) = false := by simp; omega
   by_cases a:b.es[k].k<=6
   ·have ka : decide (b.es[k].k <= 6) = true := decide_eq_true a
    have HNE:Hid (decide (b.es[k].k<=6)≠decide (0+k=0)):=U (by rw[ka,decide_eq_false (by omega:¬0+k=0)];decide)
    exact M70
   ·have ka : decide (b.es[k].k <= 6) = false := decide_eq_false a
    have HR:Hid (∀q (hq:q<b.es.length),q<k+1->decide (b.es[q].k<=6)=decide (q=0)):=U fun q hq hlq=>by
     by_cases e:q=k
     ·subst e;rw[ka,decide_eq_false z]
     ·exact HALL.out q hq O0
    exact M143
 ·have hk' : k = j := O0
  subst hk'
  have HFL2:Hid (∀q (hq:q<b.es.length),decide (b.es[q].k<=6)=decide (q=0)):=U fun q hq=>HALL.out q hq (by have:=HM.out;omega)
  have HFE2:Hid (hm.flow=ff):=U (HFE.out.symm.trans HFF.out.symm)
  have HRUN:Hid (runM b.at' b.es true hm.s=goM b.at' b.es.length 0 b.es hm.s):=U (Yx b.es 0 hm.s O3 fun i hi=>by rw[Nat.zero_add];exact HFL2.out i hi)
  obtain⟨XX,hXX⟩:=Rm (fun c=>X c\/c=w.heap.size+1+1:Nat->Prop)
  have HXX1:Hid (∀c,XX c->X c\/c=w.heap.size+1+1):=U fun c hc=>by rw[hXX] at hc;exact hc
  have HXX2:Hid (∀c,X c->XX c):=U fun c hc=>by rw[hXX];exact .inl hc
  have HXX3:Hid (XX (w.heap.size+1+1)):=U (by rw[hXX];exact .inr rfl)
  clear hXX
  have HLXX:Hid (∀W,Below W0.heap.size W0 W->Leads (Ds X w) (Ds XX W)):=U fun W hW=>Dp (HBW.out W hW).size fun c hc hx=>⟨fun e=>by
   rcases HXX1.out c e with e|e
   ·exact hx e
   ·omega,(HBW.out W hW).block c hc⟩
  have HRS:Hid (∀W,Below W0.heap.size W0 W->RS (Ds XX W) hm.s (.slice Ak nk ck) (.slice Aq nt ct) (.slice Am nm cm)):=U fun W hW=>by
   have q:=HV0.out.leads (HLXX.out W hW)
   exact⟨q.keys,q.tasks,q.timers⟩
  have hnx:=HF.out.next;have hlens:=VU HF.out.fine;have hkn:=HKN.out;have htt:=HT.out
  have HOIN:Hid (OIn XX wr hm.s (.slice Ak nk ck) (.slice Aq nt ct) (.slice Am nm cm) b (some ⟨eb,eo,none⟩) cap):=U ⟨HRS.out wr HBK.out,EvsIn.leads HEVV.out (HLXX.out wr HBK.out),fun c hc=>by
   have hz:=HBK.out.size;have hs:=HS0.out
   rcases HXX1.out c hc with e|e
   ·have:=HXB.out c e;omega
   ·omega,HF.out.fine,HFL.out,by rw[<-HAT.out];exact HBAT.out,O0,O0,O0,O0⟩
  clear hnx hlens hkn htt HALL
  have hp0':0<b.es.length:=by have:=HM.out;have:=HP.out;omega
  have HEOK:Hid (∀i (hi:i<b.es.length),FW b.es[i]):=U fun i hi=>by
   obtain⟨-,-,-,-,-,-,-,-,-,-,-,-,-,hff,-⟩:=(HEV.out wr HBK.out).get i hi
   exact Li hff (valid_of HWR.out i hi) (HS.out i hi)
  obtain⟨o1,ho1⟩:=Rm (Dc b.at' (decide (b.es.length=1)) b.es[0] hm.s)
  have HAP1:Hid (∀s',o1=some s'->OQ s'/\s'.next<=hm.s.next+1/\s'.keys.length<=hm.s.keys.length+1):=U fun s' hs=>by rw[ho1] at hs;exact⟨OI HF.out.fine hs,OO hs,PS hs⟩
  have HAM1:Hid (AtM b.at' b.es hm.s 1 o1):=U (by rw[ho1,show decide (b.es.length=1)=decide (0+1=b.es.length) from decide_eq_decide.2 O0];exact NV hm.s hp0')
  have HCO:=U (Pb hm.s ff Bu L cu _ _ _ b _ cap wr HOIN.out hp0' (HEOK.out 0 hp0') (by have:=HFL2.out 0 hp0';simpa using this))
  rw[<-ho1, <-HNX.out, <-HCL.out, <-HAT.out, <-HFF.out, <-HM.out] at HCO
  unfold rhC at HCO
  clear ho1 hp0'
  clear q0 q1 q2 q3 q4 q5 q6 qf0 qf1 qf2 qf3 qf4 qf5 qf6
  go_wp2_with fail
  refine HCO.out.mono ?_
  rintro r1 w2 ⟨hb2,cl1,nx1,uk1,ut1,um1,⟨Ak1,nk1,ck1,rfl⟩,⟨Aq1,nt1,ct1,rfl⟩,⟨Am1,nm1,cm1,rfl⟩,rfl,hs2⟩
  have HB2:=U (HBK.out.trans (hb2.mono HBK.out.size));have HS2:=U hs2
  clear hb2 hs2 HCO x0 x1 x2 x3 x4 x5 x6 y0 y1 y2
  unfold rhC
  obtain⟨W8,hW8⟩:=Rm (w2.alloc (.cells #[.string ff,.slice Bu L cu,.int .i64 cl1,.int .u64 (nx1:Nat),.slice Ak1 nk1 ck1,.slice Aq1 nt1 ct1,.slice Am1 nm1 cm1] 84))
  go_upto_region 20 with fail
  go_wp2_with fail
  rw[<-hW8]
  generalize hg8:w2.heap.size=g8 at *
  have HG8:Hid (W0.heap.size<=g8/\g8<W8.heap.size):=U ⟨by rw[<-hg8];exact HB2.out.size,by rw[hW8,World.size_alloc, <-hg8];omega⟩
  have HB8:Hid (Below W0.heap.size W0 W8):=U (by rw[hW8];exact HB2.out.alloc HB2.out.size _)
  have HCL1 : Hid (CL XX W8 g8 ff Bu L cu b hm.s 1 o1 cl1 nx1 (.slice Ak1 nk1 ck1) (.slice Aq1 nt1 ct1) (.slice Am1 nm1 cm1)) := U ⟨by unfold RX rhC; rw [hW8, <- hg8]; exact heap_alloc_new w2 _, HAM1.out, fun s' hs => by
   obtain⟨a1,a2,a3⟩:=HS2.out s' hs
   obtain⟨c1,c2,c3⟩:=HAP1.out s' hs
   refine⟨a1,a2,a3.leads (Dp (by rw[hW8,World.size_alloc];omega) fun c hc hx=>⟨?_,by rw[hW8];exact heap_alloc_old _ _ O0⟩),c1,c2,c3⟩
   rintro(e|e)
   ·exact hx e
   ·omega⟩
  clear hW8 hg8
  go_loopw [9,10] (fun ok i wz=>∃(q:Nat) (o:Option ST) (cl2:Int) (nx2:Nat) (Ak2:Option Addr) (nk2 ck2:Nat) (Aq2:Option Addr) (nt2 ct2:Nat) (Am2:Option Addr) (nm2 cm2:Nat),1<=q/\q<=k/\i= .int .i64 q/\ok= .bool o.isSome/\CL XX wz g8 ff Bu L cu b hm.s q o cl2 nx2 (.slice Ak2 nk2 ck2) (.slice Aq2 nt2 ct2) (.slice Am2 nm2 cm2)/\Below W0.heap.size W0 wz/\g8<wz.heap.size) (fun _ i _=>k-(intOf i).toNat)
  case atStart=>exact⟨1,o1,cl1,nx1,Ak1,nk1,ck1,Aq1,nt1,ct1,Am1,nm1,cm1,O0,HP.out,rfl,rfl,HCL1.out,HB8.out,HG8.out.2⟩
  case round=>
   obtain⟨q,o,cl2,nx2,Ak2,nk2,ck2,Aq2,nt2,ct2,Am2,nm2,cm2,hq1,hq,rfl,rfl,hcl2,hbq,hgz⟩:=hrel
   have HCQ:=U hcl2;have HBQ:=U hbq;have HGZ:=U hgz
   clear hcl2 hbq hgz
   obtain⟨-,y1,y2,-⟩:=(HX.out wr HBQ.out).2.1.cells
   by_cases hql:q<k
   ·cases o with
    | none=>
     exact M54
    | some s1=>
     obtain⟨hc1,hc2,hrs,hfi,hnx3,hkn3⟩:=HCQ.out.st s1 rfl
     have hqe:q<b.es.length:=by have:=HM.out;omega
     have hlens:=VU hfi;have hnx0:=HF.out.next;have hkn0:=HKN.out;have htt:=HT.out
     have HOIN2:Hid (OIn (fun c=>XX c\/c=g8) wr s1 (.slice Ak2 nk2 ck2) (.slice Aq2 nt2 ct2) (.slice Am2 nm2 cm2) b (some ⟨eb,eo,none⟩) cap):=U ⟨hrs,EvsIn.leads HEVV.out (Dp (HBW.out wr HBQ.out).size fun c hc hx=>⟨by
       rintro(e|e)
       ·rcases HXX1.out c e with e | e
        ·exact hx e
        ·omega
       ·have:=HG8.out.1;have:=HS0.out;omega,(HBW.out wr HBQ.out).block c hc⟩),fun c hc=>by
       rcases hc with e|e
       ·have hz := HBQ.out.size; have hs := HS0.out
        rcases HXX1.out c e with e|e
        ·have:=HXB.out c e;omega
        ·omega
       ·rw[e];exact HGZ.out,hfi,HFL.out,by rw[<-HAT.out];exact HBAT.out,O0,O0,O0,O0⟩
     obtain⟨o2,ho2⟩:=Rm (Dc b.at' (decide (q+1=b.es.length)) b.es[q] s1)
     have HAM2:Hid (AtM b.at' b.es hm.s (q+1) o2):=U (by rw[ho2];exact atM_next hqe HCQ.out.am)
     have HAP2:Hid (∀s',o2=some s'->OQ s'/\s'.next<=hm.s.next+(q+1)/\s'.keys.length<=hm.s.keys.length+(q+1)):=U fun s' hs=>by
      rw[ho2] at hs
      exact⟨OI hfi hs,by have:=OO hs;omega,by have:=PS hs;omega⟩
     have HCC:=U (Jg s1 ff Bu L cu _ _ _ b _ cap wr HOIN2.out q hqe (HEOK.out q hqe) (by have e:=HFL2.out q hqe;rw[decide_eq_false (by omega:¬q=0)] at e;have:=of_decide_eq_false e;omega))
     rw[<-ho2, <-hc1, <-hc2, <-HAT.out, <-HFF.out, <-HM.out] at HCC
     unfold rhC at HCC
     clear ho2 hc1 hc2 hrs hfi hnx3 hkn3 hlens hnx0 hkn0 htt
     obtain⟨z0,z1,z2,z3,z4,z5,z6,-⟩:=HCQ.out.box.cells
     obtain⟨y0,-,-,-⟩:=(HX.out wr HBQ.out).2.1.cells
     simp only[Option.isSome_some]
     go_wp2_with fail
     refine HCC.out.mono ?_
     rintro r3 w3 ⟨hb3,cl3,nx3,uk3,ut3,um3,⟨Ak3,nk3,ck3,rfl⟩,⟨Aq3,nt3,ct3,rfl⟩,⟨Am3,nm3,cm3,rfl⟩,rfl,hs3⟩
     have HBX3:=HCQ.out.box.later hb3 HGZ.out
     obtain⟨z0,z1,z2,z3,z4,z5,z6,zf⟩:=HBX3.cells
     have zf0:=zf 0;have zf1:=zf 1;have zf2:=zf 2;have zf3:=zf 3;have zf4:=zf 4;have zf5:=zf 5;have zf6:=zf 6
     obtain⟨W9,hW9⟩:=Rm (((((((w3.setCell ⟨g8,0,none⟩ (.string ff)).setCell ⟨g8,1,none⟩ (.slice Bu L cu)).setCell ⟨g8,2,none⟩ (.int .i64 cl3)).setCell ⟨g8,3,none⟩ (.int .u64 (nx3:Nat))).setCell ⟨g8,4,none⟩ (.slice Ak3 nk3 ck3)).setCell ⟨g8,5,none⟩ (.slice Aq3 nt3 ct3)).setCell ⟨g8,6,none⟩ (.slice Am3 nm3 cm3))
     have ho9:∀c,c≠g8->W9.heap[c]?=w3.heap[c]?:=fun c hc=>by rw[hW9];exact GR hc _ _ _ _ _ _ _
     have hz9:W9.heap.size=w3.heap.size:=by rw[hW9];simp[World.setCell]
     have HREL:Hid (CL XX W9 g8 ff Bu L cu b hm.s (q+1) o2 cl3 nx3 (.slice Ak3 nk3 ck3) (.slice Aq3 nt3 ct3) (.slice Am3 nm3 cm3)/\Below W0.heap.size W0 W9/\g8<W9.heap.size):=U (by
      have hb03:=HBQ.out.trans (hb3.mono HBQ.out.size)
      refine⟨⟨by rw[hW9];exact HBX3.seven,HAM2.out,fun s' hs=> ?_⟩,?_,?_⟩
      ·obtain ⟨a1, a2, a3⟩ := hs3 s' hs
       obtain⟨c1,c2,c3⟩:=HAP2.out s' hs
       exact⟨a1,a2,a3.leads (Dp O0 fun c hc hx=>⟨hx,ho9 c fun e=>hx (.inr e)⟩),c1,c2,c3⟩
      ·rw[hW9];exact Fk hb03 HG8.out.1 _ _ _ _ _ _ _
      ·rw[hz9];exact Nat.lt_of_lt_of_le HGZ.out hb3.size)
     clear hb3 hs3 zf HBX3 ho9 hz9 y0 y1 y2
     have HW9:=U hW9
     clear hW9
     unfold rhC
     go_wp2_with fail
     rw[<-HW9.out]
     go_roundw
     case rel=>
      obtain⟨r1,r2,r3⟩:=HREL.out
      exact⟨q+1,o2,cl3,nx3,Ak3,nk3,ck3,Aq3,nt3,ct3,Am3,nm3,cm3,O0,O0,by go_num,rfl,r1,r2,r3⟩
     case measure=>simp[intOf];omega
   ·have hqk : q = k := O0
    subst hqk
    cases o with
    | none=>
     exact M54
    | some s1=>
     simp only[Option.isSome_some]
     go_upto_region 26 with fail
     obtain⟨hc1,hc2,hrs,hfi,hnx3,hkn3⟩:=HCQ.out.st s1 rfl
     have HADS:Hid (Du hm b=(0,⟨hm.flow,hm.bs++ [b],s1⟩)):=U (by rw[HAD.out,HRUN.out,atM_end (by have:=HM.out;omega) HCQ.out.am])
     have HRS1:=U hrs;have HC1:=U hc1;have HC2:=U hc2
     clear hc1 hc2 hrs hfi hnx3 hkn3
     obtain⟨i0,hi0,hz0,hz1,hz2⟩:=info_parts Tryz.infoBt
     have HSZ:=U (Od hi0 hz1)
     obtain⟨xs,hcinV,hbtc⟩:=HV0.out.bs
     have hcin:=hcinV.leads (Df X w)
     rw[<-HLL.out] at hcin
     have HCI:=U hcin;have HBTC:=U hbtc
     clear hcinV hcin hbtc
     have HONE:Hid (∀x∈(#[Value.string ff,.int .u64 (at':Nat),.slice (some ⟨eb,eo,none⟩) q cap]:Array Value).toList,x.oneCell'=true):=U (by intro x hx;simp at hx;rcases hx with rfl|rfl|rfl<;>rfl)
     obtain⟨u0,hu0⟩:∃u,u=wr.drew:=⟨_,rfl⟩
     have HBu1:Hid (∀W,Below u0.heap.size u0 W->Below W0.heap.size W0 W):=U fun W hW=>by rw[hu0] at hW;exact(Da HBQ.out).trans (hW.mono HBQ.out.size)
     have HBu0:Hid (W0.heap.size<=u0.heap.size):=U (by rw[hu0];exact HBQ.out.size)
     have HBu:Hid (Below u0.heap.size u0 u0):=U (Below.refl _ _)
     have HG8X:Hid (∀W,Below u0.heap.size u0 W->RX W g8 ff (.slice Bu L cu) cl2 nx2 (.slice Ak2 nk2 ck2) (.slice Aq2 nt2 ct2) (.slice Am2 nm2 cm2)):=U fun W hW=>(hW.block g8 (by rw[hu0];exact HGZ.out)).trans (by rw[hu0];exact HCQ.out.box)
     have HG8U:Hid (g8<u0.heap.size):=U (by rw[hu0];exact HGZ.out)
     have HRSU:Hid (RS (Ds (fun c=>XX c\/c=g8) u0) s1 (.slice Ak2 nk2 ck2) (.slice Aq2 nt2 ct2) (.slice Am2 nm2 cm2)):=U (HRS1.out.leads (Dp (by rw[hu0];exact Nat.le_refl _) fun c hc hx=>⟨hx,by rw[hu0];rfl⟩))
     have HKS:Hid (∀W,Below u0.heap.size u0 W->(fun W:World=>W.cell? ⟨w.heap.size+1,0,none⟩=some (.string ff)/\W.cell? ⟨w.heap.size+1,1,none⟩=some (.int .u64 (at':Nat))/\W.cell? ⟨w.heap.size+1,2,none⟩=some (.slice (some ⟨eb,eo,none⟩) q cap)) W):=U fun W hW=>by
      exact M199
     have HKS2:Hid (∀W v,Below u0.heap.size u0 W->(fun W:World=>W.cell? ⟨w.heap.size+1,0,none⟩=some (.string ff)/\W.cell? ⟨w.heap.size+1,1,none⟩=some (.int .u64 (at':Nat))/\W.cell? ⟨w.heap.size+1,2,none⟩=some (.slice (some ⟨eb,eo,none⟩) q cap)) (W.setCell ⟨g8,1,none⟩ v)):=U fun W v hW=>by
      have d2:BB (W.setCell ⟨g8,1,none⟩ v) (w.heap.size+1) ff at' (some ⟨eb,eo,none⟩) q cap:=(RowKit.Below.heap_setCell _ _ _ _ (by have:=HG8.out.1;have:=HS0.out;show w.heap.size+1≠g8;omega)).trans (HX.out W (HBu1.out W hW)).2.1
      obtain⟨a0,a1,a2,-⟩:=BB.cells d2
      exact⟨a0,a1,a2⟩
     have HCX:Hid (∀W,Below u0.heap.size u0 W->W.cell? ⟨w.heap.size,1,none⟩=some (.slice Bu L cu)/\W.frozen? ⟨g8,1,none⟩=false/\W.cell? ⟨g8,1,none⟩=some (.slice Bu L cu)):=U fun W hW=>⟨(HX.out W (HBu1.out W hW)).1.cells.2.1,(HG8X.out W hW).cells.2.2.2.2.2.2.2 1,(HG8X.out W hW).cells.2.1⟩
     have HIN:Hid (∀W,Below u0.heap.size u0 W->CIn W (.slice Bu L cu) L 3 xs):=U fun W hW=>HCI.out.later (HBW.out W (HBu1.out W hW))
     have HOUT:Hid (∀(cF W7:World) (Ar:Option Addr) (cr:Nat),cF.ownsRow u0.heap.size 64 3 (.slice Ar (L+1) cr) (L+1) (xs++(#[Value.string ff,.int .u64 (at':Nat),.slice (some ⟨eb,eo,none⟩) q cap]:Array Value).toList)->(∀r,rowOf Ar=some r->u0.heap.size<=r)->Below u0.heap.size u0 cF->Below w.heap.size w W7->W7.heap.size=cF.heap.size->(∀r,r≠g8->r≠w.heap.size+1+1->W7.heap[r]?=cF.heap[r]?)->
       Rb X hm b w (.returned (.tuple #[.agg #[.string ff,.slice Ar (L+1) cr,.int .i64 cl2,.int .u64 (nx2:Nat),.slice Ak2 nk2 ck2,.slice Aq2 nt2 ct2,.slice Am2 nm2 cm2],.int .i64 0])) W7):=U fun cF W7 Ar cr ho hbr hbF hb7 hz7 hm7=>by
      have hg:=HG8U.out;have hs:=HS0.out;have hu:=HBu0.out
      have ho7:=Dx (w':=W7) ho (fun r hr=>by
       have:=hbr r hr
       exact hm7 r O0 O0)
      unfold Rb
      rw[HADS.out]
      have hrs7:RS (Ds X W7) s1 (.slice Ak2 nk2 ck2) (.slice Aq2 nt2 ct2) (.slice Am2 nm2 cm2):=by
       refine HRSU.out.leads (Dp (by rw[hz7];exact hbF.size) fun c hc hx=>⟨fun e=>hx (.inl (HXX2.out c e)),(hm7 c (fun e=>hx (.inr e)) (fun e=>hx (.inl (by rw[e];exact HXX3.out)))).trans (hbF.block c hc)⟩)
      refine⟨hb7,.slice Ar (L+1) cr,.slice Ak2 nk2 ck2,.slice Aq2 nt2 ct2,.slice Am2 nm2 cm2,by rw[HC1.out,HC2.out];dsimp only;rw[HFE2.out];rfl,⟨⟨xs++(#[Value.string ff,.int .u64 (at':Nat),.slice (some ⟨eb,eo,none⟩) q cap]:Array Value).toList,?_,?_⟩,hrs7.keys,hrs7.tasks,hrs7.timers⟩⟩
      ·have e : (hm.bs ++ [b]).length = L + 1 := by rw [List.length_append, <- HLL.out]; rfl
       dsimp only
       rw[e]
       refine CIn.of_veil ho7 ?_ (by intro c hc;have:=HXB.out c hc;omega)
       intro x hx
       rcases List.mem_append.1 hx with q|q
       ·exact HCI.out.2.1 x q
       ·exact HONE.out x q
      ·have hev7 : EvsIn (Ds X W7) (some ⟨eb, eo, none⟩) cap b.es := EvsIn.leads HEVV.out (Dt X hb7)
       have hone:=BtC.one HFL.out (by rw[<-HAT.out];exact HBAT.out) hev7
       rw[<-HAT.out, <-HFF.out, <-HM.out] at hone
       exact(HBTC.out.leads (Dt X hb7)).append hone
     go_upto_region 26 with fail
     refine wp_region_noPanic ?_
     refine wp_region_held_drew (S:=(fun W:World=>W.cell? ⟨w.heap.size+1,0,none⟩=some (.string ff)/\W.cell? ⟨w.heap.size+1,1,none⟩=some (.int .u64 (at':Nat))/\W.cell? ⟨w.heap.size+1,2,none⟩=some (.slice (some ⟨eb,eo,none⟩) q cap))) O2 ?_ (fun hHeld=> ?_)
     ·exact M104
     rw[<-hu0] at hHeld
     rw[<-hu0]
     replace hu0:=U hu0
     refine tk 1 rfl ?_
     refine tk 4 rfl ?_
     refine wpAnyH_ready (rs:=[0,2,5]) O2 O3 ?_
     refine Dh rfl (fun K hK=> ?_) (Dh rfl (fun K hK=> ?_) (Dh rfl (fun K hK=> ?_) AllReadyH.nil))
     ·go_simp
      obtain⟨zw0,hc0⟩:∃u,u=u0.alloc (.cells #[] 64):=⟨_,rfl⟩
      open Q268 in exact KP
     ·open Q568 in exact Rh
     ·go_simp
      obtain⟨zw1,hc1⟩:∃u,u=u0.alloc (.cells (#[Value.string ff,.int .u64 (at':Nat),.slice (some ⟨eb,eo,none⟩) q cap]:Array Value) 64):=⟨_,rfl⟩
      open Q358 in exact Js):p:=h
set_option maxHeartbeats 4000000 in
theorem radd_any (hm:HM)(ub uk ut um:Value)(b:BT)(A:Option Addr)(cap:Nat)(w:World)(hXB:∀c,X c->c<w.heap.size)(h:RH (Ds X w) hm ub uk ut um)(hf:PA hm)(hkn:hm.s.keys.length<=tot hm.bs)(htot:tot hm.bs+b.es.length<=1190000000000)(hL:hm.bs.length<=1000000)(hev:EvsIn (Ds X w) A cap b.es)(hS:∀i (h:i<b.es.length),b.es[i].v.Slim 900)(hfl:b.flow.size<=maxLen)(hbat:b.at'<18446744073709551616) :
  Calls Tryz.prog 50 #[.agg (rhC hm.flow ub hm.s.closed hm.s.next uk ut um),.agg #[.string b.flow,.int .u64 (b.at':Nat),.slice A b.es.length cap]] w (Rb X hm b w):=by
 obtain⟨Bu,cu,rfl,hbu⟩:=h.bs.open
 obtain⟨Ak,nk,ck,rfl⟩:∃A n c,uk= .slice A n c:=by obtain⟨xs,⟨-,-,A,c,e,-⟩,-⟩:=h.keys;exact⟨_,_,_,e⟩
 obtain⟨Aq,nt,ct,rfl⟩:∃A n c,ut= .slice A n c:=by obtain⟨xs,⟨-,-,A,c,e,-⟩,-⟩:=h.tasks;exact⟨_,_,_,e⟩
 obtain⟨Am,nm,cm,rfl⟩:∃A n c,um= .slice A n c:=by obtain⟨xs,⟨-,-,A,c,e,-⟩,-⟩:=h.timers;exact⟨_,_,_,e⟩
 have hle:=hev.le
 have hcm:=hev.cap_le
 have hcu:=hbu.le
 have hcu2:=hbu.cap_le
 simp only[maxLen] at hcm hcu2
 obtain⟨m,hm'⟩:=Rm (b.es.length)
 obtain⟨ff,hff⟩:=Rm (b.flow)
 obtain⟨at',hat⟩:∃at',at'=b.at':=⟨_,rfl⟩
 obtain⟨hw,hhw⟩:∃x,x=hm.flow:=⟨_,rfl⟩
 obtain⟨L,hLL⟩:∃x,x=hm.bs.length:=⟨_,rfl⟩
 obtain⟨cl,hcl⟩:∃x,x=hm.s.closed:=⟨_,rfl⟩
 obtain⟨nx,hnx⟩:∃x,x=hm.s.next:=⟨_,rfl⟩
 have HV0:=U h
 have HEVV:=U hev
 replace hev:=EvsIn.leads hev (Df X w)
 have H0:=U (h.leads (Df X w))
 have HXB:=U hXB
 rw[<-hLL] at H0 HV0 hL hcu
 rw[<-hm'] at hle htot
 rw[<-hat] at hbat
 rw[<-hm', <-hff, <-hat, <-hhw, <-hLL, <-hcl, <-hnx]
 have HEV0:=U hev;have HF:=U hf;have HKN:=U hkn;have HT:=U htot;have HS:=U hS;have HFL:=U hfl;have HBAT:=U hbat
 have HM:=U hm';have HFF:=U hff;have HAT:=U hat;have HHW:=U hhw;have HLL:=U hLL;have HCL:=U hcl;have HNX:=U hnx
 clear h hbu hev hXB hf hkn hS hfl hm' hff hat hhw hLL hcl hnx htot
 obtain⟨W0,hW0⟩:=Rm (((w.alloc (.cells (rhC hw (.slice Bu L cu) cl nx (.slice Ak nk ck) (.slice Aq nt ct) (.slice Am nm cm)) 84)).alloc (.cells #[.string ff,.int .u64 (at':Nat),.slice A m cap] 64)).alloc (.cells (rhC ⟨#[]⟩ (.slice none 0 0) 0 0 (.slice none 0 0) (.slice none 0 0) (.slice none 0 0)) 84))
 have hs0:W0.heap.size=w.heap.size+3:=by rw[hW0];simp
 have hb0:Below w.heap.size w W0:=by rw[hW0];exact(Rl.alloc O3 _).alloc (by simp;omega) _
 have hx0:W0.heap[w.heap.size]?=some (.cells (rhC hw (.slice Bu L cu) cl nx (.slice Ak nk ck) (.slice Aq nt ct) (.slice Am nm cm)) 84 (0,0)):=by rw[hW0];exact(heap_alloc_old _ _ (by simp;omega)).trans ((heap_alloc_old _ _ O3).trans (heap_alloc_new w _))
 have hx1:W0.heap[w.heap.size+1]?=some (.cells #[.string ff,.int .u64 (at':Nat),.slice A m cap] 64 (0,0)):=by
  rw[hW0,heap_alloc_old _ _ O3]
  have e:=heap_alloc_new (w.alloc (.cells (rhC hw (.slice Bu L cu) cl nx (.slice Ak nk ck) (.slice Aq nt ct) (.slice Am nm cm)) 84)) (.cells #[.string ff,.int .u64 (at':Nat),.slice A m cap] 64)
  exact M114
 have hx2:W0.heap[w.heap.size+2]?=some (.cells (rhC ⟨#[]⟩ (.slice none 0 0) 0 0 (.slice none 0 0) (.slice none 0 0) (.slice none 0 0)) 84 (0,0)):=by
  rw[hW0]
  have e:=heap_alloc_new ((w.alloc (.cells (rhC hw (.slice Bu L cu) cl nx (.slice Ak nk ck) (.slice Aq nt ct) (.slice Am nm cm)) 84)).alloc (.cells #[.string ff,.int .u64 (at':Nat),.slice A m cap] 64)) (.cells (rhC ⟨#[]⟩ (.slice none 0 0) 0 0 (.slice none 0 0) (.slice none 0 0) (.slice none 0 0)) 84)
  simp only[World.size_alloc] at e
  exact e
 have HX:Hid (∀W,Below W0.heap.size W0 W->RX W w.heap.size hw (.slice Bu L cu) cl nx (.slice Ak nk ck) (.slice Aq nt ct) (.slice Am nm cm)/\BB W (w.heap.size+1) ff at' A m cap/\RX W (w.heap.size+1+1) ⟨#[]⟩ (.slice none 0 0) 0 0 (.slice none 0 0) (.slice none 0 0) (.slice none 0 0)):=U fun W hW=>
  ⟨(hW.block _ O0).trans hx0,(hW.block _ O0).trans hx1,(hW.block _ O0).trans hx2⟩
 have HBW:Hid (∀W,Below W0.heap.size W0 W->Below w.heap.size w W):=U fun W hW=>hb0.trans (hW.mono hb0.size)
 have HEV:Hid (∀W,Below W0.heap.size W0 W->EvsIn W A cap b.es):=U fun W hW=>HEV0.out.later (HBW.out W hW)
 have HH:Hid (∀W,Below W0.heap.size W0 W->RH W hm (.slice Bu L cu) (.slice Ak nk ck) (.slice Aq nt ct) (.slice Am nm cm)):=U fun W hW=>H0.out.later (HBW.out W hW)
 have HS0:=U hs0
 unfold rhC at hW0 ⊢
 rw[show ((0:Nat):Int)=0 from rfl] at hW0
 clear hs0 hb0 hx0 hx1 hx2
 replace hW0:=U hW0
 have HBAD:Hid (∀c:Int,(Du hm b).1=c->c≠0->∀W,Below W0.heap.size W0 W->∀a0 a1 a2 a3 a4 a5 a6,Rb X hm b w (.returned (.tuple #[.agg #[.string hw,.slice Bu L cu,.int .i64 cl,.int .u64 (nx:Nat),.slice Ak nk ck,.slice Aq nt ct,.slice Am nm cm],.int .i64 c])) (((((((W.setCell ⟨w.heap.size+1+1,0,none⟩ a0).setCell ⟨w.heap.size+1+1,1,none⟩ a1).setCell ⟨w.heap.size+1+1,2,none⟩ a2).setCell ⟨w.heap.size+1+1,3,none⟩ a3).setCell ⟨w.heap.size+1+1,4,none⟩ a4).setCell ⟨w.heap.size+1+1,5,none⟩ a5).setCell ⟨w.heap.size+1+1,6,none⟩ a6)):=
  U fun c hc hne W hW a0 a1 a2 a3 a4 a5 a6=>by
   have hb7:Below w.heap.size w (((((((W.setCell ⟨w.heap.size+1+1,0,none⟩ a0).setCell ⟨w.heap.size+1+1,1,none⟩ a1).setCell ⟨w.heap.size+1+1,2,none⟩ a2).setCell ⟨w.heap.size+1+1,3,none⟩ a3).setCell ⟨w.heap.size+1+1,4,none⟩ a4).setCell ⟨w.heap.size+1+1,5,none⟩ a5).setCell ⟨w.heap.size+1+1,6,none⟩ a6):=Fk (g:=w.heap.size+1+1) (HBW.out W hW) (Nat.le_succ_of_le (Nat.le_succ _)) _ _ _ _ _ _ _
   have e2:(Du hm b).2=hm:=Sk (by rw[hc];exact hne)
   unfold Rb
   rw[e2,hc]
   exact⟨hb7,.slice Bu L cu,.slice Ak nk ck,.slice Aq nt ct,.slice Am nm cm,by rw[<-HHW.out, <-HCL.out, <-HNX.out];rfl,HV0.out.leads (Dt X hb7)⟩
 have HOK:Hid (bOk b=false->(Du hm b).1=2):=U fun hk=>by rw[addM_2 hk]
 have HBO:Hid (bOk b=(decide (at'<=9223372036854775807)&&decide (0<m)&& !b.es.any DH)):=U (by unfold bOk;rw[<-HAT.out, <-HM.out];rfl)
 obtain⟨x0,x1,x2,x3,x4,x5,x6,-⟩:=(HX.out W0 (Below.refl _ _)).1.cells
 obtain⟨y0,y1,y2,-⟩:=(HX.out W0 (Below.refl _ _)).2.1.cells
 obtain⟨q0,q1,q2,q3,q4,q5,q6,qf⟩:=(HX.out W0 (Below.refl _ _)).2.2.cells
 rw[show ((0:Nat):Int)=0 from rfl] at q3
 have qf0:=qf 0;have qf1:=qf 1;have qf2:=qf 2;have qf3:=qf 3;have qf4:=qf 4;have qf5:=qf 5;have qf6:=qf 6
 clear qf
 go_enter Tryz.func50,Tryz.ntmps50
 go_upto_region 1 with fail
 rw[<-hW0.out]
 by_cases h1:at'<=9223372036854775807
 rotate_left
 ·have k1 : decide ((at' : Int) <= 9223372036854775807) = false := decide_eq_false O0
  have k1':decide (9223372036854775807<(at':Int))=true:=decide_eq_true O0
  have HA2:=U (HOK.out (by rw[HBO.out,decide_eq_false h1];simp))
  exact M90
 have k1:decide ((at':Int)<=9223372036854775807)=true:=decide_eq_true O0
 have k1':decide (9223372036854775807<(at':Int))=false:=decide_eq_false O0
 by_cases h2:m=0
 ·have hm0 : ((m : Int) == 0) = true := by simp; omega
  have HA2:=U (HOK.out (by rw[HBO.out,decide_eq_false (by omega:¬0<m)];simp))
  exact M90
 have HQ1:=U h1
 have HP:=U (by omega:0<m)
 have hm0:((m:Int)==0)=false:=by simp;omega
 clear h1 h2
 go_upto_region 3 with fail
 clear k1 k1' hm0
 clear x0 x1 x2 x3 x4 x5 x6;clear y0 y1 y2;clear q0 q1 q2 q3 q4 q5 q6 qf0 qf1 qf2 qf3 qf4 qf5 qf6
 go_wp2_with fail
 go_loopw [5,6] (fun r i wr=>∃(j:Nat),j<=m/\i= .int .i64 j/\r= .int .i64 0/\(b.es.take j).any DH=false/\Below W0.heap.size W0 wr) (fun _ i _=>m-(intOf i).toNat)
 case atStart=>exact⟨0,O0,rfl,rfl,rfl,Below.refl _ _⟩
 case round=>
  obtain⟨j,hj,rfl,rfl,hany,hb⟩:=hrel
  have HB:=U hb;have HA:=U hany
  clear hany hb
  obtain⟨x0,x1,x2,x3,x4,x5,x6,-⟩:=(HX.out wr HB.out).1.cells
  obtain⟨y0,y1,y2,-⟩:=(HX.out wr HB.out).2.1.cells
  obtain⟨q0,q1,q2,q3,q4,q5,q6,qf⟩:=(HX.out wr HB.out).2.2.cells
  rw[show ((0:Nat):Int)=0 from rfl] at q3
  have qf0:=qf 0;have qf1:=qf 1;have qf2:=qf 2;have qf3:=qf 3;have qf4:=qf 4;have qf5:=qf 5;have qf6:=qf 6
  clear qf
  by_cases hkl:j<m
  ·have hke : j < b.es.length := by have := HM.out; omega
   obtain⟨b2,off2,lo,hi,vk,vn,vf,vs,A2,m2,c2,rfl,hbl2,hf,hv,hhi,e0,e1,e2,e3,e4,e5,e6,e7,e8,e9,e10⟩:=(HEV.out wr HB.out).get j hke
   have HC:=U (PD b.es[j] lo hi vk vn vf vs A2 m2 c2 _ hv hhi)
   have HT2:=U (Vg b.es j hke)
   have HTA:=U (KJ b.es j hke)
   unfold Db at HC
   clear hf hv
   clear q0 q1 q2 q3 q4 q5 q6 qf0 qf1 qf2 qf3 qf4 qf5 qf6
   go_wp2_with fail
   refine HC.out.mono ?_
   rintro x w1 ⟨rfl,hb1⟩
   have HB1:=U (HB.out.trans (hb1.mono HB.out.size))
   clear hb1 e0 e1 e2 e3 e4 e5 e6 e7 e8 e9 e10 HC
   clear x0 x1 x2 x3 x4 x5 x6;clear y0 y1 y2
   cases hp:b.es[j].valid with
   | true=>
    have HPP:=U hp;clear hp
    go_wp2_with fail
    go_roundw
    case rel=>exact⟨j+1,O0,by go_num,rfl,by rw[HT2.out,HA.out];simp[DH,HPP.out],HB1.out⟩
    case measure=>simp[intOf];omega
   | false=>
    have HPP:=U hp;clear hp
    have HA2:=U (HOK.out (by rw[HBO.out,HTA.out (by simp[DH,HPP.out])];simp))
    obtain⟨x0,x1,x2,x3,x4,x5,x6,-⟩:=(HX.out w1 HB1.out).1.cells
    obtain⟨y0,y1,y2,-⟩:=(HX.out w1 HB1.out).2.1.cells
    obtain⟨q0,q1,q2,q3,q4,q5,q6,qf⟩:=(HX.out w1 HB1.out).2.2.cells
    open Q302 in exact OT
  ·have hk' : j = m := O0
   subst hk'
   have HWR:Hid (b.es.any DH=false):=U (by have:=HA.out;rw[HM.out,List.take_length] at this;exact this)
   have HOKT:Hid (bOk b=true):=U (by rw[HBO.out,decide_eq_true HQ1.out,decide_eq_true HP.out,HWR.out];rfl)
   have HNB:Hid (¬bOk b=false):=U (by rw[HOKT.out];decide)
   clear hkl HA HOK HBO
   obtain⟨w1,hw1⟩:=Rm (wr)
   by_cases h3:ff=hw
   rotate_left
   ·have k3 : (ff.toList == hw.toList) = false := by rw [beq_eq_false_iff_ne]; intro q; exact h3 (ByteArray.ext (Array.ext' (by rw [Vt.toList_data, Vt.toList_data] at q; exact q)))
    have k3m:(ff.toList != hw.toList)=true:=by rw[bne,k3];rfl
    have HA2:Hid ((Du hm b).1=6):=U (by rw[addM_6 HNB.out (by rw[<-HFF.out, <-HHW.out];exact h3)])
    clear h3
    go_wp2_with fail
    refine bodyPost_ret (v:= .tuple #[.agg #[.string hw,.slice Bu L cu,.int .i64 cl,.int .u64 (nx:Nat),.slice Ak nk ck,.slice Aq nt ct,.slice Am nm cm],.int .i64 6]) (by simp[results,Tryz.results50,go_sem,q0,q1,q2,q3,q4,q5,q6]) rfl ?_
    exact HBAD.out 6 HA2.out O1 wr HB.out _ _ _ _ _ _ _
   have HFE:Hid (b.flow=hm.flow):=U (by rw[<-HFF.out, <-HHW.out];exact h3)
   subst h3
   by_cases h4:cl=0
   rotate_left
   ·have kc : (cl != 0) = true := by simpa using h4
    have kc2:(cl==0)=false:=by simpa using h4
    have HA2:Hid ((Du hm b).1=8):=U (by rw[addM_8 HNB.out HFE.out (by rw[<-HCL.out];exact h4)])
    clear h4
    go_wp2_with fail
    refine bodyPost_ret (v:= .tuple #[.agg #[.string ff,.slice Bu L cu,.int .i64 cl,.int .u64 (nx:Nat),.slice Ak nk ck,.slice Aq nt ct,.slice Am nm cm],.int .i64 8]) (by simp[results,Tryz.results50,go_sem,q0,q1,q2,q3,q4,q5,q6]) rfl ?_
    exact HBAD.out 8 HA2.out O1 wr HB.out _ _ _ _ _ _ _
   subst h4
   go_upto_region 12 with fail
   have hp0:0<b.es.length:=by have:=HM.out;have:=HP.out;omega
   obtain⟨eb,eo,lo0,hi0,vk0,vn0,vf0,vs0,A0,m0,c0,rfl,heb,-,-,-,z0,-⟩:=(HEV.out wr HB.out).get 0 hp0
   rw[show eo+0*11=eo by omega] at z0
   have hk1:Oo b=b.es[0].k:=kind1_of b hp0
   generalize hkk:b.es[0].k=k0 at *
   have HK1:=U hk1
   have HK0:=U hkk
   clear hk1 hkk
   have HCA:=U (rat_any hm ff (.slice Bu L cu) (.slice Ak nk ck) (.slice Aq nt ct) (.slice Am nm cm) 0 nx wr.drew ((HH.out wr HB.out).later (Da (Below.refl _ _))).bs)
   unfold rhC at HCA
   have HBS:Hid (hm.bs= []↔L=0):=U (by rw[HLL.out];constructor;intro e;rw[e];rfl;intro e;exact List.eq_nil_of_length_eq_zero e)
   have HADD3:Hid ((at'<hm.at'\/¬(k0=1↔L=0))->(Du hm b).1=12):=U fun q=>by rw[Lr HNB.out HFE.out HCL.out.symm (by rw[<-HAT.out,HK1.out,HBS.out];exact q)]
   have HADD4:Hid (¬(at'<hm.at'\/¬(k0=1↔L=0))->Du hm b=match runM b.at' b.es true hm.s with | none=>(12,hm)|some s'=>(0,⟨hm.flow,hm.bs++ [b],s'⟩)):=U fun q=>Sj HNB.out HFE.out HCL.out.symm (by rw[<-HAT.out,HK1.out,HBS.out];exact q)
   have KS:Hid (∀W,Below wr.heap.size wr W->(fun W:World=>W.cell? ⟨w.heap.size,0,none⟩=some (.string ff)/\W.cell? ⟨w.heap.size,1,none⟩=some (.slice Bu L cu)/\W.cell? ⟨w.heap.size,2,none⟩=some (.int .i64 0)/\W.cell? ⟨w.heap.size,3,none⟩=some (.int .u64 (nx:Nat))/\W.cell? ⟨w.heap.size,4,none⟩=some (.slice Ak nk ck)/\W.cell? ⟨w.heap.size,5,none⟩=some (.slice Aq nt ct)/\W.cell? ⟨w.heap.size,6,none⟩=some (.slice Am nm cm)/\W.cell? ⟨w.heap.size+1,1,none⟩=some (.int .u64 (at':Nat))/\W.cell? ⟨w.heap.size+1,2,none⟩=some (.slice (some ⟨eb,eo,none⟩) j cap)/\W.cell? ⟨eb,eo,none⟩=some (.int .i64 k0)) W):=U fun W hW=>by
    have hWW:=HB.out.trans (hW.mono HB.out.size)
    obtain⟨-,d1,d2,-⟩:=(HX.out W hWW).2.1.cells
    obtain⟨g0,g1,g2,g3,g4,g5,g6,-⟩:=(HX.out W hWW).1.cells
    exact⟨g0,g1,g2,g3,g4,g5,g6,d1,d2,(hW.cell (p:=⟨eb,eo,none⟩) heb).trans z0⟩
   generalize hha:hm.at'=ha at *
   have HHA:=U hha
   clear hha z0 heb
   clear x0 x1 x2 x3 x4 x5 x6
   clear y0 y1 y2
   clear q0 q1 q2 q3 q4 q5 q6 qf0 qf1 qf2 qf3 qf4 qf5 qf6
   by_cases h5:at'<ha
   ·have k5 : decide ((at' : Int) < (ha : Int)) = true := decide_eq_true O0
    have k5n:decide (at'<ha)=true:=decide_eq_true h5
    have HA2:=U (HADD3.out (.inl h5))
    clear h5
    refine wp_region_noPanic ?_
    refine wp_region_held_drew (S:=(fun W:World=>W.cell? ⟨w.heap.size,0,none⟩=some (.string ff)/\W.cell? ⟨w.heap.size,1,none⟩=some (.slice Bu L cu)/\W.cell? ⟨w.heap.size,2,none⟩=some (.int .i64 0)/\W.cell? ⟨w.heap.size,3,none⟩=some (.int .u64 (nx:Nat))/\W.cell? ⟨w.heap.size,4,none⟩=some (.slice Ak nk ck)/\W.cell? ⟨w.heap.size,5,none⟩=some (.slice Aq nt ct)/\W.cell? ⟨w.heap.size,6,none⟩=some (.slice Am nm cm)/\W.cell? ⟨w.heap.size+1,1,none⟩=some (.int .u64 (at':Nat))/\W.cell? ⟨w.heap.size+1,2,none⟩=some (.slice (some ⟨eb,eo,none⟩) j cap)/\W.cell? ⟨eb,eo,none⟩=some (.int .i64 k0))) O2 ?_ (fun hHeld=> ?_)
    ·exact M60
    refine tk 0 rfl ?_
    refine tk 1 rfl ?_
    refine tk 2 rfl ?_
    refine rd1 3 rfl fun K hK=> ?_
    go_simp
    (with_reducible refine HCA.out.mono ?_)
    rintro e5 w5 ⟨rfl,hb9⟩
    have hq5:Below wr.heap.size wr w5:=(Da (Below.refl _ _)).trans hb9
    have HQ5:=U hq5
    clear hb9 hq5
    go_wp2_with fail
    refine hK.out _ _ (KS.out _ HQ5.out) (fun hHeld2=> ?_)
    clear hK K hHeld
    try simp only[ap]
    open Q516 in exact M514
   have k5:decide ((at':Int)<(ha:Int))=false:=decide_eq_false O0
   have k5n:decide (at'<ha)=false:=decide_eq_false h5
   have HN5:=U h5
   clear h5
   have hm1:=HP.out
   have hm2:(0:Int)<(j:Int):=O0
   refine wp_region_noPanic ?_
   refine wp_region_held_drew (S:=(fun W:World=>W.cell? ⟨w.heap.size,0,none⟩=some (.string ff)/\W.cell? ⟨w.heap.size,1,none⟩=some (.slice Bu L cu)/\W.cell? ⟨w.heap.size,2,none⟩=some (.int .i64 0)/\W.cell? ⟨w.heap.size,3,none⟩=some (.int .u64 (nx:Nat))/\W.cell? ⟨w.heap.size,4,none⟩=some (.slice Ak nk ck)/\W.cell? ⟨w.heap.size,5,none⟩=some (.slice Aq nt ct)/\W.cell? ⟨w.heap.size,6,none⟩=some (.slice Am nm cm)/\W.cell? ⟨w.heap.size+1,1,none⟩=some (.int .u64 (at':Nat))/\W.cell? ⟨w.heap.size+1,2,none⟩=some (.slice (some ⟨eb,eo,none⟩) j cap)/\W.cell? ⟨eb,eo,none⟩=some (.int .i64 k0))) O2 ?_ (fun hHeld=> ?_)
   ·exact M60
   refine tk 0 rfl ?_
   refine tk 1 rfl ?_
   refine tk 2 rfl ?_
   refine rd1 3 rfl fun K hK=> ?_
   go_simp
   (with_reducible refine HCA.out.mono ?_)
   rintro e5 w5 ⟨rfl,hb9⟩
   have hq5:Below wr.heap.size wr w5:=(Da (Below.refl _ _)).trans hb9
   have HQ5:=U hq5
   clear hb9 hq5
   go_wp2_with fail
   refine hK.out _ _ (KS.out _ HQ5.out) (fun hHeld2=> ?_)
   clear hK K hHeld
   try simp only[ap]
   refine tk 4 rfl ?_
   refine tk 5 rfl ?_
   refine tk 6 rfl ?_
   refine tk 7 rfl ?_
   refine tk 8 rfl ?_
   refine tk 9 rfl ?_
   refine tk 10 rfl ?_
   refine tk 11 rfl ?_
   refine tk 12 rfl ?_
   refine tk 13 rfl ?_
   refine tk 14 rfl ?_
   refine tk 15 rfl ?_
   refine tk 16 rfl ?_
   refine tk 17 rfl ?_
   refine wpAnyH_done O2 ?_ _
   refine NoPanic.normal ?_
   clear hHeld2
   have HB5:Hid (Below W0.heap.size W0 w5):=U (HB.out.trans (HQ5.out.mono HB.out.size))
   obtain⟨x0,x1,x2,x3,x4,x5,x6,-⟩:=(HX.out w5 HB5.out).1.cells
   obtain⟨y0,y1,y2,-⟩:=(HX.out w5 HB5.out).2.1.cells
   obtain⟨q0,q1,q2,q3,q4,q5,q6,qf⟩:=(HX.out w5 HB5.out).2.2.cells
   rw[show ((0:Nat):Int)=0 from rfl] at q3
   have qf0:=qf 0;have qf1:=qf 1;have qf2:=qf 2;have qf3:=qf 3;have qf4:=qf 4;have qf5:=qf 5;have qf6:=qf 6
   clear qf
   obtain⟨bb,hbb⟩:=Rm (((k0==1)==((L:Int)==0)))
   rw[<-hbb]
   have hbe:bb=decide (k0=1↔L=0):=by
    exact M128
   clear hbb
   by_cases h6:(k0=1↔L=0)
   rotate_left
   ·obtain rfl : bb = false := by rw [hbe]; exact decide_eq_false h6
    have HA2:=U (HADD3.out (.inr h6))
    clear hbe h6
    exact M97
   obtain rfl:bb=true:=by rw[hbe];exact decide_eq_true h6
   have HAD:=U (HADD4.out (fun q=>q.elim HN5.out (fun q=>q h6)))
   clear hbe h6 k5 k5n hm2 HADD3 HADD4 KS HCA
   go_upto_region 14 with fail
   go_upto_region 15 with fail
   go_wp2_with fail
   have HADX:=HAD
   clear x0 x1 x2 x3 x4 x5 x6 y0 y1 y2 q0 q1 q2 q3 q4 q5 q6 qf0 qf1 qf2 qf3 qf4 qf5 qf6
   go_loopw [5,7] (fun r i wz=>∃(k:Nat),k<=j/\i= .int .i64 k/\r= .int .i64 0/\(∀q (hq:q<b.es.length),q<k->decide (b.es[q].k<=6)=decide (q=0))/\Below W0.heap.size W0 wz) (fun _ i _=>j-(intOf i).toNat)
   case atStart=>exact⟨0,O0,rfl,rfl,fun q _ hq=>absurd hq O0,HB5.out⟩
   case round=>
    obtain⟨k,hk,rfl,rfl,hall,hbk⟩:=hrel
    have HALL:=U hall;have HBK:=U hbk
    clear hall hbk
    obtain⟨x0,x1,x2,x3,x4,x5,x6,-⟩:=(HX.out wr HBK.out).1.cells
    obtain⟨y0,y1,y2,-⟩:=(HX.out wr HBK.out).2.1.cells
    obtain⟨q0,q1,q2,q3,q4,q5,q6,qf⟩:=(HX.out wr HBK.out).2.2.cells
    open Q663 in exact M660
open Ev (zeroT)
open Cn (PB)
def eA : EV:=⟨1,0,0,0,⟨#[112]⟩,⟨#[]⟩,zeroT⟩
def eB : EV:=⟨7,1,0,0,⟨#[97]⟩,⟨#[]⟩,zeroT⟩
theorem UZ : eA.valid=true:=by
 unfold EV.valid Ev.OR eA
 simp[Ev.fieldsOf,Vt.Gy,Ev.DB,PB]
 try decide
theorem UY : eB.valid=true:=by
 unfold EV.valid Ev.OR eB
 simp[Ev.fieldsOf,Vt.Gy,Ev.DB,PB]
 try decide
theorem NL : Dj eA:=⟨O1,O1,O1,O1,O1,O1,O1,O1⟩
theorem NK : Dj eB:=⟨O1,O1,O1,O1,O1,O1,O1,O1⟩
theorem Sq : zeroT.Slim 900:=Vt.Sa.2 ⟨O1,O1,fun i h=>absurd h O3⟩
def XL : Array Value:= #[.int .i64 1,.int .u64 0,.int .i64 0,.int .u64 0,.string ⟨#[112]⟩,.string ⟨#[]⟩,.int .i64 0,.int .i64 0,.float .f64 0,.string ⟨#[]⟩,.slice none 0 0,.int .i64 7,.int .u64 1,.int .i64 0,.int .u64 0,.string ⟨#[97]⟩,.string ⟨#[]⟩,.int .i64 0,.int .i64 0,.float .f64 0,.string ⟨#[]⟩,.slice none 0 0]
theorem ab_in (w:World)(g:Nat)(h:w.heap[g]?=some (.cells XL 61 (0,0))):EvsIn w (some ⟨g,0,none⟩) 2 [eA,eB]:=
 ⟨O3, by simp only [maxLen]; omega, fun _ => ⟨g, 0, rfl, (Array.getElem?_eq_some_iff.1 h).1, fun i hi => by
  have hr:Rep w 0 0 zeroT (Dn 0 0 0 ⟨#[]⟩ none 0 0):=Rep.leaf ⟨O0,O0,O0,O0,O0,O1,O1⟩
  rcases (by simp at hi;omega:i=0\/i=1) with rfl|rfl
  ·refine ⟨0, 0, 0, 0, 0, ⟨#[]⟩, none, 0, 0, NL, hr, Nat.zero_le _, fun q hq => ?_⟩
   rcases (by omega:q=0\/q=1\/q=2\/q=3\/q=4\/q=5\/q=6\/q=7\/q=8\/q=9\/q=10) with rfl|rfl|rfl|rfl|rfl|rfl|rfl|rfl|rfl|rfl|rfl<;>(simp only[World.cell?,h];rfl)
  ·refine ⟨0, 0, 0, 0, 0, ⟨#[]⟩, none, 0, 0, NK, hr, Nat.zero_le _, fun q hq => ?_⟩
   rcases (by omega:q=0\/q=1\/q=2\/q=3\/q=4\/q=5\/q=6\/q=7\/q=8\/q=9\/q=10) with rfl|rfl|rfl|rfl|rfl|rfl|rfl|rfl|rfl|rfl|rfl<;>(simp only[World.cell?,h];rfl)⟩⟩
variable {X X' Y Y' : Nat -> Prop} {u v w w' w0 V V' : World} {hb bt bm bk n cap : Nat} {A A' : Option Addr} {h hx : HM}
theorem NX (ho:Chg (HZ hb A) w w')(hr:∀r,rowOf A'=some r->rowOf A=some r\/w.heap.size<=r):Leads (Ds (YH Y hb A) w) (Ds (YH Y hb A') w'):=
 Dp ho.size fun c hc hx=>⟨fun q=>by
  rcases q with q|q|q
  ·exact hx (.inl q)
  ·exact hx (.inr (.inl q))
  ·rcases hr c q with e | e
   ·exact hx (.inr (.inr e))
   ·omega,ho.block c hc (fun e=>hx (.inr e))⟩
theorem Kb (hb:Below w0.heap.size w0 w)(hX:∀c,X c->w0.heap.size<=c):Leads w0 (Ds X w):=
 Ka hb.size fun b o ho _=>⟨fun e=>by have:=hX b e;have:=(Array.getElem?_eq_some_iff.1 ho).1;omega,(hb.block b (Array.getElem?_eq_some_iff.1 ho).1).trans ho⟩
structure LS (w0 : World) (Y : Nat -> Prop) (w : World) (hb bt bm bk n : Nat) (A : Option Addr) (cap : Nat) (h : HM) : Prop where
 hat:HAt Y w hb bt bm bk n A cap h
 low:∀c,YH Y hb A c->w0.heap.size<=c
 yb:∀c,Y c->c<w.heap.size
 bel:Below w0.heap.size w0 w
theorem LS.xb (S:LS w0 Y w hb bt bm bk n A cap h):∀c,YH Y hb A c->c<w.heap.size:=fun c hc=>by
 rcases hc with e|e|e
 ·exact S.yb c e
 ·rw[e];exact S.hat.lt
 ·exact S.hat.row.row_lt c e
theorem LS.later (S:LS w0 Y w hb bt bm bk n A cap h)(hw:Below w.heap.size w w'):LS w0 Y w' hb bt bm bk n A cap h:=
 ⟨S.hat.later hw,S.low,fun c hc=>Nat.lt_of_lt_of_le (S.yb c hc) hw.size,S.bel.trans (hw.mono S.bel.size)⟩
theorem LS.chg (S:LS w0 Y w hb bt bm bk n A cap h)(hc:Chg Y w w'):LS w0 Y w' hb bt bm bk n A cap h:=
 ⟨S.hat.chg hc,S.low,fun c k=>Nat.lt_of_lt_of_le (S.yb c k) hc.size,S.bel.trans (hc.below S.bel.size fun c k=>S.low c (.inl k))⟩
theorem yz_leads : Leads (Ds (YH Y hb A) w) (Ds (HZ hb A) w):=Dp (Nat.le_refl _) fun c _ hx=>⟨fun e=>hx (.inr e),rfl⟩
def LAdd (w0:World)(Y:Nat->Prop)(w:World)(hb:Nat)(A:Option Addr)(h:HM)(b:BT)(r:Ending)(w':World):Prop:=r= .returned (.int .i64 (Du h b).1)/\∃bt bm bk n A' cap',LS w0 Y w' hb bt bm bk n A' cap' (Du h b).2/\Leads (Ds (YH Y hb A) w) (Ds (YH Y hb A') w')/\Chg (HZ hb A) w w'
theorem LS.addz (S:LS w0 Y w hb bt bm bk n A cap h){T N:Nat}(hg:Good h T N)(b:BT)(A2:Option Addr)(c2:Nat)(hev:EvsIn (Ds (HZ hb A) w) A2 c2 b.es)(hbin:BIn b)(hT:T+b.es.length<=1100000000000)(hN:N<=1000000)(hfl:b.flow.size<=maxLen)(hbat:b.at'<18446744073709551616) :
  Calls Tryz.prog 40 #[.pointer (some ⟨hb,0,none⟩),.agg #[.string b.flow,.int .u64 (b.at':Nat),.slice A2 b.es.length c2]] w (LAdd w0 Y w hb A h b):=
 (Lp S.hat S.yb b A2 c2 hev hbat hbin.slim (by have := hbin.len; omega) (by have := hg.tot; omega) hfl (by have := hg.len; omega)).mono fun r w' ⟨e, hc, bt, bm, bk, n, A', cap', H, hrow⟩ => by
  refine⟨e,bt,bm,bk,n,A',cap',⟨H,fun c k=> ?_,fun c k=>Nat.lt_of_lt_of_le (S.yb c k) hc.size,S.bel.trans (hc.below S.bel.size fun c k=>S.low c (.inr k))⟩,NX hc hrow,hc⟩
  rcases k with k|k|k
  ·exact S.low c (.inl k)
  ·exact S.low c (.inr (.inl k))
  ·rcases hrow c k with q | q
   ·exact S.low c (.inr (.inr q))
   ·exact Nat.le_trans S.bel.size q
theorem LS.add (S:LS w0 Y w hb bt bm bk n A cap h){T N:Nat}(hg:Good h T N)(b:BT)(A2:Option Addr)(c2:Nat)(hev:EvsIn (Ds (YH Y hb A) w) A2 c2 b.es)(hbin:BIn b)(hT:T+b.es.length<=1100000000000)(hN:N<=1000000)(hfl:b.flow.size<=maxLen)(hbat:b.at'<18446744073709551616) :
  Calls Tryz.prog 40 #[.pointer (some ⟨hb,0,none⟩),.agg #[.string b.flow,.int .u64 (b.at':Nat),.slice A2 b.es.length c2]] w (LAdd w0 Y w hb A h b):=
 S.addz hg b A2 c2 (EvsIn.leads hev yz_leads) hbin hT hN hfl hbat
theorem RH.slices {ub uk ut um:Value}(r:RH w h ub uk ut um):(∃A n c,ub= .slice A n c)/\(∃A n c,uk= .slice A n c)/\(∃A n c,ut= .slice A n c)/\∃A n c,um= .slice A n c:=by
 refine⟨?_,?_,?_,?_⟩
 ·obtain⟨xs,⟨-,-,A,c,e,-⟩,-⟩:=r.bs;exact⟨_,_,_,e⟩
 ·obtain⟨xs,⟨-,-,A,c,e,-⟩,-⟩:=r.keys;exact⟨_,_,_,e⟩
 ·obtain⟨xs,⟨-,-,A,c,e,-⟩,-⟩:=r.tasks;exact⟨_,_,_,e⟩
 ·obtain⟨xs,⟨-,-,A,c,e,-⟩,-⟩:=r.timers;exact⟨_,_,_,e⟩
end Hi
end Go.Proofs.YtaahfiopdoinkaaGreat
