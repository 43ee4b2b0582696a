/- The reference's lists of references to tasks. -/
import Derived.Test.YtaahfiopdoinkaaGreatTwbc
set_option maxRecDepth 100000
set_option maxHeartbeats 4000000
variable {p : Prop}
set_option linter.unusedVariables false
set_option linter.unusedSimpArgs false
open Go.RowKit
namespace Go.Proofs.YtaahfiopdoinkaaGreat
namespace Ta
open _root_.Go.Proofs.YtaahfiopdoinkaaGreat.Nm (Dk De)
open Vt (Da)
open Hi (HM TK XM RIx IBox rhC RH RTk.open TkIn TOk DA CIn Dx DP Dq)
open Cm (rowOf)
attribute [local go_sem] Oper.semAt_some
variable {w w' : World}
def o1 (x:XM)(fl:Bool)(now i:Nat):List RF:=DQ ((x.flows.take i).flatMap (refsOf fl now))
def o2 (x:XM)(fl:Bool)(now i:Nat)(f:ByteArray)(ts:List TK)(k:Nat):List RF:=DQ ((x.flows.take i).flatMap (refsOf fl now)++Gi fl now f (ts.take k))
theorem o1_0 (x:XM)(fl:Bool)(now:Nat):o1 x fl now 0= []:=rfl
theorem o1_end (x:XM)(fl:Bool)(now:Nat):o1 x fl now x.flows.length=DJ fl now x:=by unfold o1 DJ;rw[List.take_length]
theorem o2_0 (x:XM)(fl:Bool)(now i:Nat)(f:ByteArray)(ts:List TK):o2 x fl now i f ts 0=o1 x fl now i:=by unfold o2 o1 Gi;simp
theorem M157 (h:p:=by
 rw[List.take_of_length_le hL,List.take_succ_eq_append_getElem hi,List.flatMap_append]
 simp only[List.flatMap_cons,List.flatMap_nil,List.append_nil]
 rfl):p:=h
theorem o2_end (x:XM)(fl:Bool)(now i:Nat)(hi:i<x.flows.length)(L:Nat)(hL:x.flows[i].s.tasks.length<=L):o2 x fl now i x.flows[i].flow x.flows[i].s.tasks L=o1 x fl now (i+1):=by
 unfold o2 o1
 exact M157
theorem o2_yes (x:XM)(fl:Bool)(now i:Nat)(f:ByteArray)(ts:List TK)(k:Nat)(hk:k<ts.length)(hp:ts[k].fl=fl/\ts[k].at'<=now):o2 x fl now i f ts (k+1)=Ft (o2 x fl now i f ts k) (Ni fl f ts[k]):=by
 unfold o2
 rw[PF fl now f ts k hk,if_pos hp, <-List.append_assoc,Gl]
theorem o2_no (x:XM)(fl:Bool)(now i:Nat)(f:ByteArray)(ts:List TK)(k:Nat)(hk:k<ts.length)(hp:¬(ts[k].fl=fl/\ts[k].at'<=now)):o2 x fl now i f ts (k+1)=o2 x fl now i f ts k:=by
 unfold o2
 rw[PF fl now f ts k hk,if_neg hp,List.append_nil]
theorem M116 (h:p:=by
 rw[List.length_take] at h1 h2
 have h3:(i+1)*M<=x.flows.length*M:=Nat.mul_le_mul_right M hi
 rw[Nat.succ_mul] at h3
 have h4:min i x.flows.length*M<=i*M:=Nat.mul_le_mul_right M (Nat.min_le_left _ _)
 omega):p:=h
theorem o2_len {x:XM}{M:Nat}(hM:∀h∈x.flows,h.s.tasks.length<=M)(hT:x.flows.length*M<=1000000000000)(fl:Bool)(now i:Nat)(f:ByteArray)(ts:List TK)(k:Nat)(hi:i<x.flows.length)(hts:ts.length<=M):(o2 x fl now i f ts k).length<=1000000000000:=by
 unfold o2
 rw[FF,List.length_append]
 have h1:=FD (F:=refsOf fl now) (M:=M) (l:=x.flows.take i) fun h hh=>Nat.le_trans (Gc fl now h) (hM h (List.mem_of_mem_take hh))
 have h2:=YB fl now f (ts.take k)
 exact M116
theorem UR (l:List RF)(r:RF):(Ft l r).length=l.length+1:=by rw[<-(Pr l r).length_eq];simp
theorem M51 (h:p:=by
 have hlkz:¬(k:Int)<(L:Int):=O0
 obtain rfl:k=L:=O0
 have HB5:Hid (Below W0.heap.size W0 wr):=U (HB01.out.trans (HB2.out.mono HB01.out.size))
 have HO5:=U (by have h:=HO2.out;rw[HE2.out k (by rw[HL.out];exact Nat.le_refl _)] at h;exact h)
 go_wp2_with fail
 go_roundw
 case rel=>exact⟨i+1,by go_num,O0,HB5.out,HO5.out⟩
 case measure=>(simp[intOf];try omega)):p:=h
theorem M79 (h:p:=by
 go_wp2_with fail
 go_roundw
 case rel=>exact⟨k+1,by go_num,O0,HB3.out,HO4.out⟩
 case measure=>(simp[intOf];try omega)):p:=h
theorem M138 (h:p:=by
 have htz:(now:Int)<(ta:Int):=O0
 have htn:now<ta:=O0
 have HO4:=U (by have h:=HO3.out;rw[<-HNO.out (fun q=>hta q.2)] at h;exact h)
 exact M79):p:=h
theorem M151 (h:p:=by
 clear hb5 ho5 y0 y7 y8 y9 z0
 go_wp2_with fail
 go_roundw
 case rel=>exact⟨k+1,by go_num,O0,HB5.out,HO5.out⟩
 case measure=>(simp[intOf];try omega)):p:=h
theorem M179 (h:p:=by
 go_wp2_with fail
 go_ret
 exact⟨_,rfl,HBW.out,HOE.out⟩):p:=h
theorem M194 (h:p:=by
 have HO4:=U (by have h:=HO3.out;rw[<-HNO.out O3] at h;exact h)
 exact M79):p:=h
theorem Q284.Y283 (h:p:=by
 cases tf with
 | false=>
  exact M194
 | true=>
  by_cases hta:ta<=now
  ·have htz : ¬ (now : Int) < (ta : Int) := O0
   have htn:¬now<ta:=O0
   have HCI:=U (PH (o2 x true now i ff ts k) ff tid tn ta _ rfl u7 _ W2 HO3.out HLEN.out)
   have HIN:Hid (o2 x true now i ff ts (k+1)=Ft (o2 x true now i ff ts k) ⟨ff,tid,tn,ta⟩):=U (HYES.out ⟨rfl,hta⟩)
   go_wp2_with fail
   refine HCI.out.mono ?_
   rintro e w5 ⟨v5,rfl,hb5,ho5⟩
   have HB5:Hid (Below W1.heap.size W1 w5):=U (HB3.out.trans (hb5.mono HB3.out.size))
   have HO5:Hid (w5.ownsRow w.heap.size 53 4 v5 (o2 x true now i ff ts (k+1)).length ((o2 x true now i ff ts (k+1)).flatMap rfL)):=U (by
    rw[HIN.out,UR];exact Fv ho5 HBZ2.out.size)
   exact M151
  ·exact M138):p:=h
theorem Q457.Y455 (h:p:=by
 have hn0:0<=tn:=hok.n0
 have hn1:tn<=2147483647:=hok.n1
 have hwn:IntKind.i64.wrap (tn+1)=tn+1:=by rw[IntKind.wrap_i64];omega
 clear hcell hok hn0 hn1
 go_upto_region 10 with fail
 clear e0 e1 e2 e3 e4 e5 e6 e7 e8 e9 f5
 obtain⟨gt,hgt⟩:∃g,g=wr.heap.size:=⟨_,rfl⟩
 obtain⟨W2,hW2⟩:=Rm (wr.alloc (.cells #[.int .u64 (tid:Nat),.string tnm,.int .i64 kk,.int .i64 n,.float .f64 fv,.string s,.slice A' m' c',.int .i64 tn,.bool tf,.int .u64 (ta:Nat)] 39))
 have hb2:Below wr.heap.size wr W2:=by rw[hW2];exact Rl
 have hx2:W2.heap[gt]?=some (.cells #[.int .u64 (tid:Nat),.string tnm,.int .i64 kk,.int .i64 n,.float .f64 fv,.string s,.slice A' m' c',.int .i64 tn,.bool tf,.int .u64 (ta:Nat)] 39 (0,0)):=by rw[hW2,hgt];exact heap_alloc_new _ _
 rw[<-hgt, <-hW2]
 have y0:W2.cell? ⟨gt,0,none⟩=some (.int .u64 (tid:Nat)):=by simp[World.cell?,hx2]
 have y7:W2.cell? ⟨gt,7,none⟩=some (.int .i64 tn):=by simp[World.cell?,hx2]
 have y8:W2.cell? ⟨gt,8,none⟩=some (.bool tf):=by simp[World.cell?,hx2]
 have y9:W2.cell? ⟨gt,9,none⟩=some (.int .u64 (ta:Nat)):=by simp[World.cell?,hx2]
 have z0:W2.cell? ⟨g7,0,none⟩=some (.string ff):=(hb2.cell (p:=⟨g7,0,none⟩) (Nat.lt_of_lt_of_le HG7.out HB2.out.size)).trans f0
 have HB3:Hid (Below W1.heap.size W1 W2):=U (HB2.out.trans (hb2.mono HB2.out.size))
 have HBZ2:Hid (Below w.heap.size w W2):=U (HBZ.out.trans (hb2.mono HBZ.out.size))
 have HO3:=U (Fh HO2.out hb2)
 clear hb2 hx2 f0
 replace hW2:=U hW2;replace hgt:=U hgt
 exact Y283):p:=h
theorem M283 (h:p:=by
 obtain⟨t,ht⟩:=Rm (ts[k])
 rw[<-ht] at hcell hok HYES HNO
 clear hcells hcell0 ht
 obtain⟨tid,tnm,tv,tn,tf,ta⟩:=t
 open Q457 in exact M455):p:=h
theorem M654 (h:p:=by
 have HG7:Hid (g7<W1.heap.size):=U (by rw[hW1,hg7];simp)
 have HBW1:Hid (Below w.heap.size w W1):=U (HBW.out.trans (hb1.mono HBW.out.size))
 have HB01:Hid (Below W0.heap.size W0 W1):=U (HB1.out.trans (hb1.mono HB1.out.size))
 have HO1:=U (Fh HO.out hb1)
 rw[<-hg7, <-hW1]
 clear hb1
 replace hW1:=U hW1;replace hg7:=U hg7
 exact Y654):p:=h
theorem Q656.Y654 (h:p:=by
 go_wp2_with fail
 exact Y371):p:=h
theorem M371 (h:p:=by
 obtain⟨L,hL⟩:=Rm (ts.length)
 rw[<-hL] at d5 hcl
 have HL:=U hL
 clear e1 e2 hle hcap hrd hc hrh hq htk hr hlen h1 hcell hts hff hkc hkn hn3 hn4 hn5 hL hbl
 go_upto_region 6 with fail
 clear d0 d1 d2 d3 d4 d5 d6 x0 x1
 obtain⟨g7,hg7⟩:∃g,g=wr.heap.size:=⟨_,rfl⟩
 obtain⟨W1,hW1⟩:=Rm (wr.alloc (.cells #[.string ff,.slice A3 n3 c3,.int .i64 kc,.int .u64 (kn:Nat),.slice A4 n4 c4,.slice A2 L cap2,.slice A5 n5 c5] 84))
 have hb1:Below wr.heap.size wr W1:=by rw[hW1];exact Rl
 have HX1:Hid (W1.heap[g7]?=some (.cells #[.string ff,.slice A3 n3 c3,.int .i64 kc,.int .u64 (kn:Nat),.slice A4 n4 c4,.slice A2 L cap2,.slice A5 n5 c5] 84 (0,0))):=U (by rw[hW1,hg7];exact heap_alloc_new _ _)
 open Q656 in exact M654):p:=h
theorem M549 (h:p:=by
 obtain⟨k,rfl,hk,hb,ho⟩:=hrel
 have HB2:=U hb;have HO2:=U ho
 have HBZ:Hid (Below w.heap.size w wr):=U (HBW1.out.trans (hb.mono HBW1.out.size))
 have hx2:=(hb.block g7 HG7.out).trans HX1.out
 have f0:wr.cell? ⟨g7,0,none⟩=some (.string ff):=by simp[World.cell?,hx2]
 exact Y549):p:=h
theorem M681 (h:p:=by
 have hlkz:(k:Int)<(L:Int):=O0
 have hkl:k<ts.length:=by have:=HL.out;omega
 obtain⟨bb,off2,rfl,hbb,hcells⟩:=HKI.out O0
 obtain⟨lo,hi',kk,n,fv,s,A',m',c',hok,-,-,hcell0⟩:=hcells k hkl
 have hcell:=fun q hq=>(HBZ.out.cell (p:=⟨bb,off2+k*10+q,none⟩) hbb).trans (hcell0 q hq)
 exact Y681):p:=h
theorem Q682.Y681 (h:p:=by
 have HYES:=U (o2_yes x true now i ff ts k hkl)
 have HNO:=U (o2_no x true now i ff ts k hkl)
 have HLEN:Hid ((o2 x true now i ff ts k).length<=1000000000000):=U (o2_len HM.out HT.out true now i ff ts k hil HTL.out)
 open Q284 in exact M283):p:=h
theorem Q550.Y549 (h:p:=by
 have f5:wr.cell? ⟨g7,5,none⟩=some (.slice A2 L cap2):=by simp[World.cell?,hx2]
 clear hb ho hx2
 by_cases hlk:k<L
 ·open Q682 in exact M681
 ·exact M51):p:=h
theorem Q372.Y371 (h:p:=by
 go_loopw [7,10] (fun v u wz=>∃k:Nat,u= .int .i64 k/\k<=L/\Below W1.heap.size W1 wz/\wz.ownsRow w.heap.size 53 4 v (o2 x true now i ff ts k).length ((o2 x true now i ff ts k).flatMap rfL)) (fun _ u _=>L-(intOf u).toNat)
 case atStart=>exact⟨0,by go_num,Nat.zero_le _,Below.refl _ _,by rw[o2_0];exact HO1.out⟩
 case round=>
  open Q550 in exact M549):p:=h
theorem Q319.Y318 (h:p:=by
 have HE2:Hid (∀L,ts.length<=L->o2 x true now i ff ts L=o1 x true now (i+1)):=U fun L hL=>by
  subst hts hff;exact o2_end x true now i hil L hL
 open Q372 in exact M371):p:=h
theorem M664 (h:p:=by
 have hltz:(i:Int)<(nF:Int):=O0
 have hil:i<x.flows.length:=by have:=HNF.out;omega
 obtain⟨xs,⟨hlen,h1,A',cap',e1,hle,hcap,hrd⟩,hc⟩:=HH.out.flows
 obtain⟨b,off,e2,hbl,hr⟩:=hrd O0
 obtain rfl:AF=some ⟨b,off,none⟩:=by injection e1 with q _ _;rw[q,e2]
 obtain⟨-,ub,uk,ut,um,hrh,hq⟩:=hc.2 i hil
 exact Y664):p:=h
theorem M673 (h:p:=by
 obtain⟨ff,hff⟩:=Rm (x.flows[i].flow)
 obtain⟨kc,hkc⟩:=Rm (x.flows[i].s.closed)
 obtain⟨kn,hkn⟩:=Rm (x.flows[i].s.next)
 obtain⟨n3,hn3⟩:=Rm (x.flows[i].bs.length)
 obtain⟨n4,hn4⟩:=Rm (x.flows[i].s.keys.length)
 exact Y673):p:=h
theorem Q675.Y673 (h:p:=by
 obtain⟨n5,hn5⟩:=Rm (x.flows[i].s.timers.length)
 have hcell:=fun q (hq7:q<7) v hv=>(HBW.out.cell (p:=⟨b,off+(i*7+q),none⟩) hbl).trans (hr (i*7+q) v ((hq q hq7).trans hv))
 rw[<-hts] at hcell htk
 rw[<-hff, <-hkc, <-hkn, <-hn3, <-hn4, <-hn5] at hcell
 have d0:=hcell 0 O0 (.string ff) rfl;have d1:=hcell 1 O0 (.slice A3 n3 c3) rfl;have d2:=hcell 2 O0 (.int .i64 kc) rfl;have d3:=hcell 3 O0 (.int .u64 (kn:Nat)) rfl;have d4:=hcell 4 O0 (.slice A4 n4 c4) rfl;have d5:=hcell 5 O0 (.slice A2 ts.length cap2) rfl;have d6:=hcell 6 O0 (.slice A5 n5 c5) rfl
 rw[<-Nat.add_assoc] at d0 d1 d2 d3 d4 d5 d6
 rw[Nat.add_zero] at d0
 have hcp:cap2<=maxLen:=htk.2.1
 have hcl:ts.length<=cap2:=htk.1
 simp only[maxLen] at hcp
 have HKI:=U htk.2.2
 have HTL:Hid (ts.length<=M):=U (by rw[hts];exact HM.out _ (List.getElem_mem hil))
 exact Y318):p:=h
theorem Q665.Y664 (h:p:=by
 obtain⟨A2,cap2,rfl,htk⟩:=RTk.open hrh.tasks
 obtain⟨_,⟨-,-,A3,c3,rfl,-,-⟩,-⟩:=hrh.bs
 obtain⟨_,⟨-,-,A4,c4,rfl,-,-⟩,-⟩:=hrh.keys
 obtain⟨_,⟨-,-,A5,c5,rfl,-,-⟩,-⟩:=hrh.timers
 obtain⟨ts,hts⟩:=Rm (x.flows[i].s.tasks)
 open Q675 in exact M673):p:=h
theorem M318 (h:p:=by
 open Q665 in exact M664):p:=h
theorem M628 (h:p:=by
 obtain⟨i,rfl,hi,hb,ho⟩:=hrel
 have HB1:=U hb;have HO:=U ho
 have HBW:Hid (Below w.heap.size w wr):=U (HB0.out.trans (hb.mono HB0.out.size))
 clear hb ho
 obtain⟨x0,x1,-⟩:=(HI0.out.later HB1.out HI0.out.lt).cells
 exact Y628):p:=h
theorem Q629.Y628 (h:p:=by
 by_cases hlt:i<nF
 ·open Q319 in exact M318
 ·have hltz : ¬ (i : Int) < (nF : Int) := O0
  obtain rfl:i=nF:=O0
  have HOE:Hid (wr.ownsRow w.heap.size 53 4 u7 (DJ true now x).length ((DJ true now x).flatMap rfL)):=U (by
   have h:=HO.out
   rw[HNF.out,o1_end] at h;exact h)
  exact M179):p:=h
theorem Q339.Y338 (h:p:=by
 go_enter Tryz.func18,Tryz.ntmps18
 go_upto_region 1 with fail
 rw[<-hW0.out, <-hgb.out]
 go_wp2_with fail
 go_loopw [7,8] (fun v u wr=>∃i:Nat,u= .int .i64 i/\i<=nF/\Below W0.heap.size W0 wr/\wr.ownsRow w.heap.size 53 4 v (o1 x true now i).length ((o1 x true now i).flatMap rfL)) (fun _ u _=>nF-(intOf u).toNat)
 case atStart=>exact⟨0,by go_num,Nat.zero_le _,Below.refl _ _,by simp[World.ownsRow,o1_0]⟩
 case round=>
  open Q629 in exact M628):p:=h
theorem M648 (h:p:=by
 obtain⟨nA,hnA⟩:∃n,n=x.all.length:=⟨_,rfl⟩
 obtain⟨nF,hnF⟩:∃n,n=x.flows.length:=⟨_,rfl⟩
 obtain⟨W0,hW0⟩:=Rm (w.alloc (.cells #[.slice AA nA cA,.slice AF nF cF] 27))
 obtain⟨gb,hgb⟩:∃g,g=w.heap.size:=⟨_,rfl⟩
 have hb0:Below w.heap.size w W0:=by rw[hW0];exact Rl
 exact Y648):p:=h
theorem Q650.Y648 (h:p:=by
 have HI0:Hid (IBox W0 gb (.slice AA nA cA) (.slice AF nF cF)):=U (by rw[hW0,hgb];exact IBox.new ..)
 have HB0:=U hb0;have HH:=U h
 have HM:=U hM;have HT:=U hT
 rw[<-hnF] at hF1 hN
 rw[<-hnA, <-hnF]
 have HNF:=U hnF;have HNA:=U hnA
 clear h hb0 hnA hnF hM hT
 replace hW0:=U hW0;replace hgb:=U hgb
 exact Y338):p:=h
theorem M338 (h:p:=by
 obtain⟨⟨AA,cA,rfl,-,-⟩,AF,cF,rfl,hF1,hF2⟩:=h.slices
 simp only[maxLen] at hF2
 open Q650 in exact M648):p:=h
theorem Yz (uA uF:Value)(x:XM)(now M:Nat)(w:World)(h:RIx w x uA uF)(hM:∀h∈x.flows,h.s.tasks.length<=M)(hT:x.flows.length*M<=1000000000000)(hN:x.flows.length<=1000000000000)(hMM:M<=1000000000000000) :
  Calls Tryz.prog 18 #[.agg #[uA,uF],.bool true,.int .u64 (now:Nat)] w fun e w'=>∃v',e= .returned v'/\Below w.heap.size w w'/\w'.ownsRow w.heap.size 53 4 v' (DJ true now x).length ((DJ true now x).flatMap rfL):=by
 open Q339 in exact M338
theorem Q285.Y283 (h:p:=by
 cases tf with
 | true=>
  exact M194
 | false=>
  by_cases hta:ta<=now
  ·have htz : ¬ (now : Int) < (ta : Int) := O0
   have htn:¬now<ta:=O0
   have HCI:=U (PH (o2 x false now i ff ts k) ff tid (tn+1) ta _ rfl u7 _ W2 HO3.out HLEN.out)
   have HIN:Hid (o2 x false now i ff ts (k+1)=Ft (o2 x false now i ff ts k) ⟨ff,tid,(tn+1),ta⟩):=U (HYES.out ⟨rfl,hta⟩)
   go_wp2_with fail
   refine HCI.out.mono ?_
   rintro e w5 ⟨v5,rfl,hb5,ho5⟩
   have HB5:Hid (Below W1.heap.size W1 w5):=U (HB3.out.trans (hb5.mono HB3.out.size))
   have HO5:Hid (w5.ownsRow w.heap.size 53 4 v5 (o2 x false now i ff ts (k+1)).length ((o2 x false now i ff ts (k+1)).flatMap rfL)):=U (by
    rw[HIN.out,UR];exact Fv ho5 HBZ2.out.size)
   exact M151
  ·exact M138):p:=h
theorem Q683.Y681 (h:p:=by
 have HYES:=U (o2_yes x false now i ff ts k hkl)
 have HNO:=U (o2_no x false now i ff ts k hkl)
 have HLEN:Hid ((o2 x false now i ff ts k).length<=1000000000000):=U (o2_len HM.out HT.out false now i ff ts k hil HTL.out)
 open Q285 in exact M283):p:=h
theorem Q551.Y549 (h:p:=by
 have f5:wr.cell? ⟨g7,5,none⟩=some (.slice A2 L cap2):=by simp[World.cell?,hx2]
 clear hb ho hx2
 by_cases hlk:k<L
 ·open Q683 in exact M681
 ·exact M51):p:=h
theorem Q373.Y371 (h:p:=by
 go_loopw [7,10] (fun v u wz=>∃k:Nat,u= .int .i64 k/\k<=L/\Below W1.heap.size W1 wz/\wz.ownsRow w.heap.size 53 4 v (o2 x false now i ff ts k).length ((o2 x false now i ff ts k).flatMap rfL)) (fun _ u _=>L-(intOf u).toNat)
 case atStart=>exact⟨0,by go_num,Nat.zero_le _,Below.refl _ _,by rw[o2_0];exact HO1.out⟩
 case round=>
  open Q551 in exact M549):p:=h
theorem Q320.Y318 (h:p:=by
 have HE2:Hid (∀L,ts.length<=L->o2 x false now i ff ts L=o1 x false now (i+1)):=U fun L hL=>by
  subst hts hff;exact o2_end x false now i hil L hL
 open Q373 in exact M371):p:=h
theorem Q630.Y628 (h:p:=by
 by_cases hlt:i<nF
 ·open Q320 in exact M318
 ·have hltz : ¬ (i : Int) < (nF : Int) := O0
  obtain rfl:i=nF:=O0
  have HOE:Hid (wr.ownsRow w.heap.size 53 4 u7 (DJ false now x).length ((DJ false now x).flatMap rfL)):=U (by
   have h:=HO.out
   rw[HNF.out,o1_end] at h;exact h)
  exact M179):p:=h
theorem Q340.Y338 (h:p:=by
 go_enter Tryz.func18,Tryz.ntmps18
 go_upto_region 1 with fail
 rw[<-hW0.out, <-hgb.out]
 go_wp2_with fail
 go_loopw [7,8] (fun v u wr=>∃i:Nat,u= .int .i64 i/\i<=nF/\Below W0.heap.size W0 wr/\wr.ownsRow w.heap.size 53 4 v (o1 x false now i).length ((o1 x false now i).flatMap rfL)) (fun _ u _=>nF-(intOf u).toNat)
 case atStart=>exact⟨0,by go_num,Nat.zero_le _,Below.refl _ _,by simp[World.ownsRow,o1_0]⟩
 case round=>
  open Q630 in exact M628):p:=h
theorem Xp (uA uF:Value)(x:XM)(now M:Nat)(w:World)(h:RIx w x uA uF)(hM:∀h∈x.flows,h.s.tasks.length<=M)(hT:x.flows.length*M<=1000000000000)(hN:x.flows.length<=1000000000000)(hMM:M<=1000000000000000) :
  Calls Tryz.prog 18 #[.agg #[uA,uF],.bool false,.int .u64 (now:Nat)] w fun e w'=>∃v',e= .returned v'/\Below w.heap.size w w'/\w'.ownsRow w.heap.size 53 4 v' (DJ false now x).length ((DJ false now x).flatMap rfL):=by
 open Q340 in exact M338
open Hi (DU Gm)
attribute [local go_sem] Oper.semAt_some
def p1 (x:XM)(now i:Nat):List RF:=DQ ((x.flows.take i).flatMap (DT now))
def p2 (x:XM)(now i:Nat)(f:ByteArray)(ts:List (Nat×Nat))(k:Nat):List RF:=DQ ((x.flows.take i).flatMap (DT now)++Gn now f (ts.take k))
theorem p1_0 (x:XM)(now:Nat):p1 x now 0= []:=rfl
theorem p1_end (x:XM)(now:Nat):p1 x now x.flows.length=Oa now x:=by unfold p1 Oa;rw[List.take_length]
theorem p2_0 (x:XM)(now i:Nat)(f:ByteArray)(ts:List (Nat×Nat)):p2 x now i f ts 0=p1 x now i:=by unfold p2 p1 Gn;simp
theorem p2_end (x:XM)(now i:Nat)(hi:i<x.flows.length)(L:Nat)(hL:x.flows[i].s.timers.length<=L):p2 x now i x.flows[i].flow x.flows[i].s.timers L=p1 x now (i+1):=by
 unfold p2 p1
 exact M157
theorem p2_yes (x:XM)(now i:Nat)(f:ByteArray)(ts:List (Nat×Nat))(k:Nat)(hk:k<ts.length)(hp:ts[k].2<=now):p2 x now i f ts (k+1)=Ft (p2 x now i f ts k) (dueK f ts[k]):=by
 unfold p2
 rw[PR now f ts k hk,if_pos hp, <-List.append_assoc,Gl]
theorem p2_no (x:XM)(now i:Nat)(f:ByteArray)(ts:List (Nat×Nat))(k:Nat)(hk:k<ts.length)(hp:¬ts[k].2<=now):p2 x now i f ts (k+1)=p2 x now i f ts k:=by
 unfold p2
 rw[PR now f ts k hk,if_neg hp,List.append_nil]
theorem p2_len {x:XM}{M:Nat}(hM:∀h∈x.flows,h.s.timers.length<=M)(hT:x.flows.length*M<=1000000000000)(now i:Nat)(f:ByteArray)(ts:List (Nat×Nat))(k:Nat)(hi:i<x.flows.length)(hts:ts.length<=M):(p2 x now i f ts k).length<=1000000000000:=by
 unfold p2
 rw[FF,List.length_append]
 have h1:=FD (F:=DT now) (M:=M) (l:=x.flows.take i) fun h hh=>Nat.le_trans (Ot now h) (hM h (List.mem_of_mem_take hh))
 have h2:=Ja now f (ts.take k)
 exact M116
theorem Q552.Y549 (h:p:=by
 have f5:wr.cell? ⟨g7,6,none⟩=some (.slice A2 L cap2):=by simp[World.cell?,hx2]
 clear hb ho hx2
 by_cases hlk:k<L
 ·have hlkz : (k : Int) < (L : Int) := O0
  have hkl:k<ts.length:=by have:=HL.out;omega
  obtain⟨bb,off2,rfl,hbb,hcells⟩:=HKI.out O0
  have hcell:=fun k hk=>And.intro ((HBZ.out.cell (p:=⟨bb,off2+k*2,none⟩) hbb).trans (hcells k hk).1) ((HBZ.out.cell (p:=⟨bb,off2+k*2+1,none⟩) hbb).trans (hcells k hk).2)
  obtain⟨e0,e1⟩:=hcell k hkl
  have HYES:=U (p2_yes x now i ff ts k hkl)
  have HNO:=U (p2_no x now i ff ts k hkl)
  have HLEN:Hid ((p2 x now i ff ts k).length<=1000000000000):=U (p2_len HM.out HT.out now i ff ts k hil HTL.out)
  obtain⟨t,ht⟩:=Rm (ts[k])
  rw[<-ht] at e0 e1 HYES HNO
  clear hcells hcell ht
  obtain⟨tid,ta⟩:=t
  have e0:wr.cell? ⟨bb,off2+k*2,none⟩=some (.int .u64 (tid:Nat)):=e0
  have e1:wr.cell? ⟨bb,off2+k*2+1,none⟩=some (.int .u64 (ta:Nat)):=e1
  by_cases hta:ta<=now
  ·have htz : (ta : Int) <= (now : Int) := O0
   have HBD:Hid (Below W1.heap.size W1 wr.drew):=U (Da HB2.out)
   have HBZ2:Hid (Below w.heap.size w wr.drew):=U (Da HBZ.out)
   have HO3:=U (Fh HO2.out (Da (Below.refl _ _)))
   have HCI:=U (PH (p2 x now i ff ts k) ff tid 0 ta _ rfl u5 _ wr.drew HO3.out HLEN.out)
   have HIN:Hid (p2 x now i ff ts (k+1)=Ft (p2 x now i ff ts k) ⟨ff,tid,0,ta⟩):=U (HYES.out hta)
   have HBB:=U (Nat.lt_of_lt_of_le hbb HBZ.out.size)
   have HS:Hid (∀W':World,Below wr.heap.size wr W'->(fun W':World=>W'.cell? ⟨g7,0,none⟩=some (.string ff)/\W'.cell? ⟨g7,6,none⟩=some (.slice (some ⟨bb,off2,none⟩) L cap2)/\W'.cell? ⟨bb,off2+k*2,none⟩=some (.int .u64 (tid:Nat))/\W'.cell? ⟨bb,off2+k*2+1,none⟩=some (.int .u64 (ta:Nat))) W'):=U fun W' hW=>⟨(hW.cell (p:=⟨g7,0,none⟩) (Nat.lt_of_lt_of_le HG7.out HB2.out.size)).trans f0,(hW.cell (p:=⟨g7,6,none⟩) (Nat.lt_of_lt_of_le HG7.out HB2.out.size)).trans f5,(hW.cell (p:=⟨bb,_,none⟩) HBB.out).trans e0,(hW.cell (p:=⟨bb,_,none⟩) HBB.out).trans e1⟩
   have HD:Hid (Below wr.heap.size wr wr.drew):=U (Da (Below.refl _ _))
   clear hbb
   go_upto_region 10 with fail
   go_region_held3 (fun W' : World => W'.cell? ⟨g7, 0, none⟩ = some (.string ff) /\ W'.cell? ⟨g7, 6, none⟩ = some (.slice (some ⟨bb, off2, none⟩) L cap2) /\ W'.cell? ⟨bb, off2 + k * 2, none⟩ = some (.int .u64 (tid : Nat)) /\ W'.cell? ⟨bb, off2 + k * 2 + 1, none⟩ = some (.int .u64 (ta : Nat)))
    (first
     | exact HS.out _ HD.out
     | exact HS.out _ (HD.out.trans ((show Below wr.drew.heap.size wr.drew _ by assumption).mono HD.out.size))
     | go_keep)
    (first
     | (go_at_call 37;refine HCI.out.mono ?_;rintro e w5 ⟨v5,rfl,hb5,ho5⟩))
   all_goals
    have HB5:Hid (Below W1.heap.size W1 w5):=U (HBD.out.trans (hb5.mono HBD.out.size))
    have HO5:Hid (w5.ownsRow w.heap.size 53 4 v5 (p2 x now i ff ts (k+1)).length ((p2 x now i ff ts (k+1)).flatMap rfL)):=U (by
     rw[HIN.out,UR];exact Fv ho5 HBZ2.out.size)
    clear hb5 ho5 e0 e1 f0 f5
    go_wp2_with fail
    go_roundw
    case rel=>exact⟨k+1,by go_num,O0,HB5.out,HO5.out⟩
    case measure=>(simp[intOf];try omega)
  ·have htz : ¬ (ta : Int) <= (now : Int) := O0
   have HO4:=U (by have h:=HO2.out;rw[<-HNO.out hta] at h;exact h)
   go_wp2_with fail
   go_roundw
   case rel=>exact⟨k+1,by go_num,O0,HB2.out,HO4.out⟩
   case measure=>(simp[intOf];try omega)
 ·exact M51):p:=h
theorem Q655.Y654 (h:p:=by
 go_wp2_with fail
 go_loopw [5,8] (fun v u wz=>∃k:Nat,u= .int .i64 k/\k<=L/\Below W1.heap.size W1 wz/\wz.ownsRow w.heap.size 53 4 v (p2 x now i ff ts k).length ((p2 x now i ff ts k).flatMap rfL)) (fun _ u _=>L-(intOf u).toNat)
 case atStart=>exact⟨0,by go_num,Nat.zero_le _,Below.refl _ _,by rw[p2_0];exact HO1.out⟩
 case round=>
  open Q552 in exact M549):p:=h
theorem Q674.Y673 (h:p:=by
 obtain⟨n5,hn5⟩:=Rm (x.flows[i].s.tasks.length)
 have hcell:=fun q (hq7:q<7) v hv=>(HBW.out.cell (p:=⟨b,off+(i*7+q),none⟩) hbl).trans (hr (i*7+q) v ((hq q hq7).trans hv))
 rw[<-hts] at hcell hcl htr htc
 rw[<-hff, <-hkc, <-hkn, <-hn3, <-hn4, <-hn5] at hcell
 have d0:=hcell 0 O0 (.string ff) rfl;have d1:=hcell 1 O0 (.slice A3 n3 c3) rfl;have d2:=hcell 2 O0 (.int .i64 kc) rfl;have d3:=hcell 3 O0 (.int .u64 (kn:Nat)) rfl;have d4:=hcell 4 O0 (.slice A4 n4 c4) rfl;have d5:=hcell 5 O0 (.slice A5 n5 c5) rfl;have d6:=hcell 6 O0 (.slice A2 ts.length cap2) rfl
 rw[<-Nat.add_assoc] at d0 d1 d2 d3 d4 d5 d6
 rw[Nat.add_zero] at d0
 simp only[maxLen] at hcp
 have HKI:Hid (0<ts.length->∃b off,A2=some ⟨b,off,none⟩/\b<w.heap.size/\∀k (hk:k<ts.length),w.cell? ⟨b,off+k*2,none⟩=some (.int .u64 (ts[k].1:Nat))/\w.cell? ⟨b,off+k*2+1,none⟩=some (.int .u64 (ts[k].2:Nat))):=U fun h0=>by
  obtain⟨b',off',q1,q2,q3⟩:=htr h0
  refine⟨b',off',q1,q2,fun k hk=>⟨?_,?_⟩⟩
  ·exact q3 (k*2) _ (by rw[htc];exact Gm DU 2 (fun _=>rfl) ts k 0 hk O0)
  ·rw[Nat.add_assoc];exact q3 (k*2+1) _ (by rw[htc];exact Gm DU 2 (fun _=>rfl) ts k 1 hk O0)
 have HTL:Hid (ts.length<=M):=U (by rw[hts];exact HM.out _ (List.getElem_mem hil))
 have HE2:Hid (∀L,ts.length<=L->p2 x now i ff ts L=p1 x now (i+1)):=U fun L hL=>by
  subst hts hff;exact p2_end x now i hil L hL
 obtain⟨L,hL⟩:=Rm (ts.length)
 rw[<-hL] at d6 hcl
 have HL:=U hL
 clear e1 e2 hle hcap hrd hc hrh hq htm htc htr hr hlen h1 hcell hts hff hkc hkn hn3 hn4 hn5 hL hbl
 go_upto_region 6 with fail
 clear d0 d1 d2 d3 d4 d5 d6 x0 x1
 obtain⟨g7,hg7⟩:∃g,g=wr.heap.size:=⟨_,rfl⟩
 obtain⟨W1,hW1⟩:=Rm (wr.alloc (.cells #[.string ff,.slice A3 n3 c3,.int .i64 kc,.int .u64 (kn:Nat),.slice A4 n4 c4,.slice A5 n5 c5,.slice A2 L cap2] 84))
 have hb1:Below wr.heap.size wr W1:=by rw[hW1];exact Rl
 have HX1:Hid (W1.heap[g7]?=some (.cells #[.string ff,.slice A3 n3 c3,.int .i64 kc,.int .u64 (kn:Nat),.slice A4 n4 c4,.slice A5 n5 c5,.slice A2 L cap2] 84 (0,0))):=U (by rw[hW1,hg7];exact heap_alloc_new _ _)
 open Q655 in exact M654):p:=h
theorem Q666.Y664 (h:p:=by
 obtain⟨xt,htm,htc⟩:=hrh.timers
 have htm0:=htm
 obtain⟨-,-,A2,cap2,rfl,hcl,hcp,htr⟩:=htm0
 obtain⟨_,⟨-,-,A3,c3,rfl,-,-⟩,-⟩:=hrh.bs
 obtain⟨_,⟨-,-,A4,c4,rfl,-,-⟩,-⟩:=hrh.keys
 obtain⟨_,⟨-,-,A5,c5,rfl,-,-⟩,-⟩:=hrh.tasks
 obtain⟨ts,hts⟩:=Rm (x.flows[i].s.timers)
 open Q674 in exact M673):p:=h
theorem Q631.Y628 (h:p:=by
 by_cases hlt:i<nF
 ·open Q666 in exact M664
 ·have hltz : ¬ (i : Int) < (nF : Int) := O0
  obtain rfl:i=nF:=O0
  have HOE:Hid (wr.ownsRow w.heap.size 53 4 u5 (Oa now x).length ((Oa now x).flatMap rfL)):=U (by
   have h:=HO.out
   rw[HNF.out,p1_end] at h;exact h)
  exact M179):p:=h
theorem Q341.Y338 (h:p:=by
 go_enter Tryz.func19,Tryz.ntmps19
 go_upto_region 1 with fail
 rw[<-hW0.out, <-hgb.out]
 go_wp2_with fail
 go_loopw [5,6] (fun v u wr=>∃i:Nat,u= .int .i64 i/\i<=nF/\Below W0.heap.size W0 wr/\wr.ownsRow w.heap.size 53 4 v (p1 x now i).length ((p1 x now i).flatMap rfL)) (fun _ u _=>nF-(intOf u).toNat)
 case atStart=>exact⟨0,by go_num,Nat.zero_le _,Below.refl _ _,by simp[World.ownsRow,p1_0]⟩
 case round=>
  open Q631 in exact M628):p:=h
theorem rdue_any (uA uF:Value)(x:XM)(now M:Nat)(w:World)(h:RIx w x uA uF)(hM:∀h∈x.flows,h.s.timers.length<=M)(hT:x.flows.length*M<=1000000000000)(hN:x.flows.length<=1000000000000)(hMM:M<=1000000000000000) :
  Calls Tryz.prog 19 #[.agg #[uA,uF],.int .u64 (now:Nat)] w fun e w'=>∃v',e= .returned v'/\Below w.heap.size w w'/\w'.ownsRow w.heap.size 53 4 v' (Oa now x).length ((Oa now x).flatMap rfL):=by
 open Q341 in exact M338
attribute [local go_sem] Oper.semAt_some
theorem M46 (h:p:=by
 go_wp2_with fail
 go_loopw [13] (fun vj wr=>∃j:Nat,vj= .int .i64 (j:Int)/\j<=n/\Below w.heap.size w wr) (fun vj _=>n+1-(intOf vj).toNat)
 case atStart=>exact⟨0,rfl,O0,Below.refl _ _⟩
 case round=>
  obtain⟨j,rfl,hj,hbr⟩:=hrel
  have HBR:=U hbr
  by_cases hjn:j<n
  ·obtain ⟨g, off, f, id, m, at', rfl, hr, -, y0, y1, y2, y3⟩ := GD (HK.out.later HBR.out) HN.out j hjn
   obtain⟨g',off',f2,id2,m2,at2,rfl,hr2,-,z0,z1,z2,z3⟩:=GD (HK'.out.later HBR.out) HN.out j hjn
   rw[hr] at hr2
   cases hr2
   have hjn':(j:Int)<n:=O0
   clear hbr hr
   go_wp2_with fail
   go_region
   all_goals
    go_wp2_with fail
    exact⟨⟨j+1,rfl,O0,HBR.out.drew⟩,by simp[intOf];omega⟩
  ·have hjn' : ¬ ((j : Int) < n) := O0
   clear hbr
   go_wp2_with fail
   go_ret
   exact⟨rfl,HBR.out⟩):p:=h
theorem eqr_any (rs:List RF)(n:Nat)(hn:n=rs.length)(A A':Option Addr)(c c':Nat)(w:World)(h:CIn w (.slice A n c) n 4 (rs.flatMap rfL))(h':CIn w (.slice A' n c') n 4 (rs.flatMap rfL))(hle:n<=1000000000000) :
  Calls Tryz.prog 16 #[.slice A n c,.slice A' n c'] w fun e w'=>e= .returned (.bool true)/\Below w.heap.size w w':=by
 have HK:=U h;have HK':=U h';have HN:=U hn
 clear h h' hn
 go_enter Tryz.func16,Tryz.ntmps16
 exact M46
theorem XA (rs:List RF)(n:Nat)(hn:n=rs.length)(A A':Option Addr)(c c':Nat)(w:World)(h:CIn w (.slice A n c) n 4 (rs.flatMap rfL))(h':CIn w (.slice A' n c') n 4 (rs.flatMap rfL))(hle:n<=1000000000000) :
  Calls Tryz.prog 25 #[.slice A n c,.slice A' n c'] w fun e w'=>e= .returned (.bool true)/\Below w.heap.size w w':=by
 have HK:=U h;have HK':=U h';have HN:=U hn
 clear h h' hn
 go_enter Tryz.func25,Tryz.ntmps25
 exact M46
end Ta
end Go.Proofs.YtaahfiopdoinkaaGreat
