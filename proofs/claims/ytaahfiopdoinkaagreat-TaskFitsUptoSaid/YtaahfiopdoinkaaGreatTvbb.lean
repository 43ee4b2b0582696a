/- The reference's list of references to timers. -/
import Derived.Test.YtaahfiopdoinkaaGreatTvba
set_option maxRecDepth 100000
set_option maxHeartbeats 4000000
variable {p : Prop}
set_option linter.unusedVariables false
set_option linter.unusedSimpArgs false
open Go.RowKit
namespace Go.Proofs.YtaahfiopdoinkaaGreat
namespace Ta
open _root_.Go.Proofs.YtaahfiopdoinkaaGreat.Nm (Dl De)
open Vt (Da)
open Hi (HM TK XM RIx IBox rhC RH RTk.open TkIn TOk DA DR Gm CIn DC Fa Dq)
open Cm (rowOf)
attribute [local go_sem] Oper.semAt_some
variable {w w' : World}
def p1 (x:XM)(now i:Nat):List RF:=DN ((x.flows.take i).flatMap (DX now))
def p2 (x:XM)(now i:Nat)(f:ByteArray)(ts:List (Nat×Nat))(k:Nat):List RF:=DN ((x.flows.take i).flatMap (DX now)++Gn now f (ts.take k))
theorem p1_0 (x:XM)(now:Nat):p1 x now 0= []:=rfl
theorem p1_end (x:XM)(now:Nat):p1 x now x.flows.length=Pc now x:=by unfold p1 Pc;rw[List.take_length]
theorem p2_0 (x:XM)(now i:Nat)(f:ByteArray)(ts:List (Nat×Nat)):p2 x now i f ts 0=p1 x now i:=by unfold p2 p1 Gn;simp
theorem p2_end (x:XM)(now i:Nat)(hi:i<x.flows.length)(L:Nat)(hL:x.flows[i].s.timers.length<=L):p2 x now i x.flows[i].flow x.flows[i].s.timers L=p1 x now (i+1):=by
 unfold p2 p1
 exact M154
theorem p2_yes (x:XM)(now i:Nat)(f:ByteArray)(ts:List (Nat×Nat))(k:Nat)(hk:k<ts.length)(hp:ts[k].2<=now):p2 x now i f ts (k+1)=Fw (p2 x now i f ts k) (dueK f ts[k]):=by
 unfold p2
 rw[PR now f ts k hk,if_pos hp, <-List.append_assoc,Gl]
theorem p2_no (x:XM)(now i:Nat)(f:ByteArray)(ts:List (Nat×Nat))(k:Nat)(hk:k<ts.length)(hp:¬ts[k].2<=now):p2 x now i f ts (k+1)=p2 x now i f ts k:=by
 unfold p2
 rw[PR now f ts k hk,if_neg hp,List.append_nil]
theorem p2_len {x:XM}{M:Nat}(hM:∀h∈x.flows,h.s.timers.length<=M)(hT:x.flows.length*M<=1000000000000)(now i:Nat)(f:ByteArray)(ts:List (Nat×Nat))(k:Nat)(hi:i<x.flows.length)(hts:ts.length<=M):(p2 x now i f ts k).length<=1000000000000:=by
 unfold p2
 rw[FF,List.length_append]
 have h1:=Ge (F:=DX now) (M:=M) (l:=x.flows.take i) fun h hh=>Nat.le_trans (Sd now h) (hM h (List.mem_of_mem_take hh))
 have h2:=YN now f (ts.take k)
 exact M111
theorem Q546.Y543 (h:p:=by
 have f5:wr.cell? ⟨g7,6,none⟩=some (.slice A2 L cap2):=by simp[World.cell?,hx2]
 clear hb ho hx2
 by_cases hlk:k<L
 ·have hlkz : (k : Int) < (L : Int) := O0
  have hkl:k<ts.length:=by have:=HL.out;omega
  obtain⟨bb,off2,rfl,hbb,hcells⟩:=HKI.out O0
  have hcell:=fun k hk=>And.intro ((HBZ.out.cell (p:=⟨bb,off2+k*2,none⟩) hbb).trans (hcells k hk).1) ((HBZ.out.cell (p:=⟨bb,off2+k*2+1,none⟩) hbb).trans (hcells k hk).2)
  obtain⟨e0,e1⟩:=hcell k hkl
  have HYES:=U (p2_yes x now i ff ts k hkl)
  have HNO:=U (p2_no x now i ff ts k hkl)
  have HLEN:Hid ((p2 x now i ff ts k).length<=1000000000000):=U (p2_len HM.out HT.out now i ff ts k hil HTL.out)
  obtain⟨t,ht⟩:=Rv (ts[k])
  rw[<-ht] at e0 e1 HYES HNO
  clear hcells hcell ht
  obtain⟨tid,ta⟩:=t
  have e0:wr.cell? ⟨bb,off2+k*2,none⟩=some (.int .u64 (tid:Nat)):=e0
  have e1:wr.cell? ⟨bb,off2+k*2+1,none⟩=some (.int .u64 (ta:Nat)):=e1
  by_cases hta:ta<=now
  ·have htz : (ta : Int) <= (now : Int) := O0
   have HBD:Hid (Below W1.heap.size W1 wr.drew):=U (Da HB2.out)
   have HBZ2:Hid (Below w.heap.size w wr.drew):=U (Da HBZ.out)
   have HO3:=U (Gx HO2.out (Da (Below.refl _ _)))
   have HCI:=U (PH (p2 x now i ff ts k) ff tid 0 ta _ rfl u5 _ wr.drew HO3.out HLEN.out)
   have HIN:Hid (p2 x now i ff ts (k+1)=Fw (p2 x now i ff ts k) ⟨ff,tid,0,ta⟩):=U (HYES.out hta)
   have HBB:=U (Nat.lt_of_lt_of_le hbb HBZ.out.size)
   have HS:Hid (∀W':World,Below wr.heap.size wr W'->(fun W':World=>W'.cell? ⟨g7,0,none⟩=some (.string ff)/\W'.cell? ⟨g7,6,none⟩=some (.slice (some ⟨bb,off2,none⟩) L cap2)/\W'.cell? ⟨bb,off2+k*2,none⟩=some (.int .u64 (tid:Nat))/\W'.cell? ⟨bb,off2+k*2+1,none⟩=some (.int .u64 (ta:Nat))) W'):=U fun W' hW=>⟨(hW.cell (p:=⟨g7,0,none⟩) (Nat.lt_of_lt_of_le HG7.out HB2.out.size)).trans f0,(hW.cell (p:=⟨g7,6,none⟩) (Nat.lt_of_lt_of_le HG7.out HB2.out.size)).trans f5,(hW.cell (p:=⟨bb,_,none⟩) HBB.out).trans e0,(hW.cell (p:=⟨bb,_,none⟩) HBB.out).trans e1⟩
   have HD:Hid (Below wr.heap.size wr wr.drew):=U (Da (Below.refl _ _))
   clear hbb
   go_upto_region 10 with fail
   go_region_held3 (fun W' : World => W'.cell? ⟨g7, 0, none⟩ = some (.string ff) /\ W'.cell? ⟨g7, 6, none⟩ = some (.slice (some ⟨bb, off2, none⟩) L cap2) /\ W'.cell? ⟨bb, off2 + k * 2, none⟩ = some (.int .u64 (tid : Nat)) /\ W'.cell? ⟨bb, off2 + k * 2 + 1, none⟩ = some (.int .u64 (ta : Nat)))
    (first
     | exact HS.out _ HD.out
     | exact HS.out _ (HD.out.trans ((show Below wr.drew.heap.size wr.drew _ by assumption).mono HD.out.size))
     | go_keep)
    (first
     | (go_at_call 37;refine HCI.out.mono ?_;rintro e w5 ⟨v5,rfl,hb5,ho5⟩))
   all_goals
    have HB5:Hid (Below W1.heap.size W1 w5):=U (HBD.out.trans (hb5.mono HBD.out.size))
    have HO5:Hid (w5.ownsRow w.heap.size 53 4 v5 (p2 x now i ff ts (k+1)).length ((p2 x now i ff ts (k+1)).flatMap rfL)):=U (by
     rw[HIN.out,UM];exact Fx ho5 HBZ2.out.size)
    clear hb5 ho5 e0 e1 f0 f5
    go_wp2_with fail
    go_roundw
    case rel=>exact⟨k+1,by go_num,O0,HB5.out,HO5.out⟩
    case measure=>(simp[intOf];try omega)
  ·have htz : ¬ (ta : Int) <= (now : Int) := O0
   have HO4:=U (by have h:=HO2.out;rw[<-HNO.out hta] at h;exact h)
   go_wp2_with fail
   go_roundw
   case rel=>exact⟨k+1,by go_num,O0,HB2.out,HO4.out⟩
   case measure=>(simp[intOf];try omega)
 ·exact M47):p:=h
theorem Q649.Y648 (h:p:=by
 go_wp2_with fail
 go_loopw [5,8] (fun v u wz=>∃k:Nat,u= .int .i64 k/\k<=L/\Below W1.heap.size W1 wz/\wz.ownsRow w.heap.size 53 4 v (p2 x now i ff ts k).length ((p2 x now i ff ts k).flatMap rfL)) (fun _ u _=>L-(intOf u).toNat)
 case atStart=>exact⟨0,by go_num,Nat.zero_le _,Below.refl _ _,by rw[p2_0];exact HO1.out⟩
 case round=>
  open Q546 in exact M543):p:=h
theorem Q668.Y667 (h:p:=by
 obtain⟨n5,hn5⟩:=Rv (x.flows[i].s.tasks.length)
 have hcell:=fun q (hq7:q<7) v hv=>(HBW.out.cell (p:=⟨b,off+(i*7+q),none⟩) hbl).trans (hr (i*7+q) v ((hq q hq7).trans hv))
 rw[<-hts] at hcell hcl htr htc
 rw[<-hff, <-hkc, <-hkn, <-hn3, <-hn4, <-hn5] at hcell
 have d0:=hcell 0 O0 (.string ff) rfl;have d1:=hcell 1 O0 (.slice A3 n3 c3) rfl;have d2:=hcell 2 O0 (.int .i64 kc) rfl;have d3:=hcell 3 O0 (.int .u64 (kn:Nat)) rfl;have d4:=hcell 4 O0 (.slice A4 n4 c4) rfl;have d5:=hcell 5 O0 (.slice A5 n5 c5) rfl;have d6:=hcell 6 O0 (.slice A2 ts.length cap2) rfl
 rw[<-Nat.add_assoc] at d0 d1 d2 d3 d4 d5 d6
 rw[Nat.add_zero] at d0
 simp only[maxLen] at hcp
 have HKI:Hid (0<ts.length->∃b off,A2=some ⟨b,off,none⟩/\b<w.heap.size/\∀k (hk:k<ts.length),w.cell? ⟨b,off+k*2,none⟩=some (.int .u64 (ts[k].1:Nat))/\w.cell? ⟨b,off+k*2+1,none⟩=some (.int .u64 (ts[k].2:Nat))):=U fun h0=>by
  obtain⟨b',off',q1,q2,q3⟩:=htr h0
  refine⟨b',off',q1,q2,fun k hk=>⟨?_,?_⟩⟩
  ·exact q3 (k*2) _ (by rw[htc];exact Gm DR 2 (fun _=>rfl) ts k 0 hk O0)
  ·rw[Nat.add_assoc];exact q3 (k*2+1) _ (by rw[htc];exact Gm DR 2 (fun _=>rfl) ts k 1 hk O0)
 have HTL:Hid (ts.length<=M):=U (by rw[hts];exact HM.out _ (List.getElem_mem hil))
 have HE2:Hid (∀L,ts.length<=L->p2 x now i ff ts L=p1 x now (i+1)):=U fun L hL=>by
  subst hts hff;exact p2_end x now i hil L hL
 obtain⟨L,hL⟩:=Rv (ts.length)
 rw[<-hL] at d6 hcl
 have HL:=U hL
 clear e1 e2 hle hcap hrd hc hrh hq htm htc htr hr hlen h1 hcell hts hff hkc hkn hn3 hn4 hn5 hL hbl
 go_upto_region 6 with fail
 clear d0 d1 d2 d3 d4 d5 d6 x0 x1
 obtain⟨g7,hg7⟩:∃g,g=wr.heap.size:=⟨_,rfl⟩
 obtain⟨W1,hW1⟩:=Rv (wr.alloc (.cells #[.string ff,.slice A3 n3 c3,.int .i64 kc,.int .u64 (kn:Nat),.slice A4 n4 c4,.slice A5 n5 c5,.slice A2 L cap2] 84))
 have hb1:Below wr.heap.size wr W1:=by rw[hW1];exact Ru
 have HX1:Hid (W1.heap[g7]?=some (.cells #[.string ff,.slice A3 n3 c3,.int .i64 kc,.int .u64 (kn:Nat),.slice A4 n4 c4,.slice A5 n5 c5,.slice A2 L cap2] 84 (0,0))):=U (by rw[hW1,hg7];exact heap_alloc_new _ _)
 open Q649 in exact M648):p:=h
theorem Q660.Y658 (h:p:=by
 obtain⟨xt,htm,htc⟩:=hrh.timers
 have htm0:=htm
 obtain⟨-,-,A2,cap2,rfl,hcl,hcp,htr⟩:=htm0
 obtain⟨_,⟨-,-,A3,c3,rfl,-,-⟩,-⟩:=hrh.bs
 obtain⟨_,⟨-,-,A4,c4,rfl,-,-⟩,-⟩:=hrh.keys
 obtain⟨_,⟨-,-,A5,c5,rfl,-,-⟩,-⟩:=hrh.tasks
 obtain⟨ts,hts⟩:=Rv (x.flows[i].s.timers)
 open Q668 in exact M667):p:=h
theorem Q625.Y622 (h:p:=by
 by_cases hlt:i<nF
 ·open Q660 in exact M658
 ·have hltz : ¬ (i : Int) < (nF : Int) := O0
  obtain rfl:i=nF:=O0
  have HOE:Hid (wr.ownsRow w.heap.size 53 4 u5 (Pc now x).length ((Pc now x).flatMap rfL)):=U (by
   have h:=HO.out
   rw[HNF.out,p1_end] at h;exact h)
  exact M175):p:=h
theorem Q338.Y335 (h:p:=by
 go_enter Tryz.func19,Tryz.ntmps19
 go_upto_region 1 with fail
 rw[<-hW0.out, <-hgb.out]
 go_wp2_with fail
 go_loopw [5,6] (fun v u wr=>∃i:Nat,u= .int .i64 i/\i<=nF/\Below W0.heap.size W0 wr/\wr.ownsRow w.heap.size 53 4 v (p1 x now i).length ((p1 x now i).flatMap rfL)) (fun _ u _=>nF-(intOf u).toNat)
 case atStart=>exact⟨0,by go_num,Nat.zero_le _,Below.refl _ _,by simp[World.ownsRow,p1_0]⟩
 case round=>
  open Q625 in exact M622):p:=h
theorem rdue_any (uA uF:Value)(x:XM)(now M:Nat)(w:World)(h:RIx w x uA uF)(hM:∀h∈x.flows,h.s.timers.length<=M)(hT:x.flows.length*M<=1000000000000)(hN:x.flows.length<=1000000000000)(hMM:M<=1000000000000000) :
  Calls Tryz.prog 19 #[.agg #[uA,uF],.int .u64 (now:Nat)] w fun e w'=>∃v',e= .returned v'/\Below w.heap.size w w'/\w'.ownsRow w.heap.size 53 4 v' (Pc now x).length ((Pc now x).flatMap rfL):=by
 open Q338 in exact M335
attribute [local go_sem] Oper.semAt_some
theorem Le (rs:List RF)(n:Nat)(hn:n=rs.length)(A A':Option Addr)(c c':Nat)(w:World)(h:CIn w (.slice A n c) n 4 (rs.flatMap rfL))(h':CIn w (.slice A' n c') n 4 (rs.flatMap rfL))(hle:n<=1000000000000) :
  Calls Tryz.prog 16 #[.slice A n c,.slice A' n c'] w fun e w'=>e= .returned (.bool true)/\Below w.heap.size w w':=by
 have HK:=U h;have HK':=U h';have HN:=U hn
 clear h h' hn
 go_enter Tryz.func16,Tryz.ntmps16
 go_wp2_with fail
 go_loopw [13] (fun vj wr=>∃j:Nat,vj= .int .i64 (j:Int)/\j<=n/\Below w.heap.size w wr) (fun vj _=>n+1-(intOf vj).toNat)
 case atStart=>exact⟨0,rfl,O0,Below.refl _ _⟩
 case round=>
  obtain⟨j,rfl,hj,hbr⟩:=hrel
  have HBR:=U hbr
  by_cases hjn:j<n
  ·obtain ⟨g, off, f, id, m, at', rfl, hr, -, y0, y1, y2, y3⟩ := Od (HK.out.later HBR.out) HN.out j hjn
   obtain⟨g',off',f2,id2,m2,at2,rfl,hr2,-,z0,z1,z2,z3⟩:=Od (HK'.out.later HBR.out) HN.out j hjn
   rw[hr] at hr2
   cases hr2
   have hjn':(j:Int)<n:=O0
   clear hbr hr
   go_wp2_with fail
   go_region
   all_goals
    go_wp2_with fail
    exact⟨⟨j+1,rfl,O0,HBR.out.drew⟩,by simp[intOf];omega⟩
  ·have hjn' : ¬ ((j : Int) < n) := O0
   clear hbr
   go_wp2_with fail
   go_ret
   exact⟨rfl,HBR.out⟩
end Ta
end Go.Proofs.YtaahfiopdoinkaaGreat
