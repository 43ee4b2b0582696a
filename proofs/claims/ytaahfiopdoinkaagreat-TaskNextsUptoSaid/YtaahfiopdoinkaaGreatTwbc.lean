/- slices.DeleteFunc of references that are not later than a tick: the walk. -/
import Derived.Test.YtaahfiopdoinkaaGreatTwbb
import Derived.Test.YtaahfiopdoinkaaGreatTwao
import Derived.Test.YtaahfiopdoinkaaGreatTwau
import Derived.Test.YtaahfiopdoinkaaGreatTwaq
import Derived.Test.YtaahfiopdoinkaaGreatTwav
set_option maxRecDepth 100000
set_option maxHeartbeats 4000000
variable {p : Prop}
set_option linter.unusedVariables false
set_option linter.unusedSimpArgs false
open Go.RowKit
namespace Go.Proofs.YtaahfiopdoinkaaGreat
namespace Ta
open _root_.Go.Proofs.YtaahfiopdoinkaaGreat.Nm (Dk De)
open Vt (Da)
open Hi (CIn Dx DP Dq)
open Cm (Gf)
attribute [local go_sem] Oper.semAt_some
variable {w w' : World}
theorem Kr (rs:List RF)(n0:Nat)(hn0:n0=rs.length)(base:Nat)(A:Option Addr)(cap now nb:Nat)(w:World)(h:w.ownsRow base 57 4 (.slice A n0 cap) n0 (rs.flatMap rfL))(hbase:base<=w.heap.size)(hnb:nb<base)(hc:w.cell? ⟨nb,0,none⟩=some (.int .u64 (now:Nat)))(hle:n0<=3000000000000) :
  Calls Tryz.prog 43 #[.slice A n0 cap,.func (.func 44) #[] #[.pointer (some ⟨nb,0,none⟩)]] w fun r w'=>∃n,r= .returned (.slice A n cap)/\n=(Fz now rs).length/\CIn w' (.slice A n cap) n 4 ((Fz now rs).flatMap rfL)/\Below base w w':=by
 have HE:=U h
 have HI:=U (Ke rs n0 hn0 A cap now nb w (CIn.of_own h (FC _)) O0 hc hle)
 obtain⟨hl,hcm⟩:=Hi.DS h
 simp only[maxLen] at hcm
 have HN0:=U hn0;have HNC:=U hc
 clear h hn0 hc
 go_enter Tryz.func43,Tryz.ntmps43
 go_wp2_with fail
 refine HI.out.mono ?_
 rintro x w1 ⟨i,rfl,hfound,hb1⟩
 rcases hfound with ⟨rfl,hno⟩|⟨n,rfl,hn,hp,hno⟩
 ·have HNO := U hno
  have HB1:=U hb1
  clear hno hb1
  go_wp2_with fail
  go_ret
  exact⟨n0,rfl,by rw[Su HNO.out];exact HN0.out,by rw[Su HNO.out];exact CIn.of_own (Fh HE.out HB1.out) (FC _),HB1.out.mono hbase⟩
 ·obtain⟨r,rfl⟩:∃r,A=some ⟨r,0,none⟩:=by
   rcases HE.out.2 with ⟨h2,h3⟩|⟨r',cp,cur,q1,-⟩
   ·have:=HN0.out;omega
   ·injection q1 with q1;exact⟨r',q1⟩
  have hn':n<n0:=by have:=HN0.out;omega
  have HD1:Hid (RRow w1 r cap (Fz now (rs.take (n+1))) (rs.drop (n+1)) (n+1)):=U (by
   rw[SM hn hp hno]
   exact RRow.start HN0.out (Fh HE.out hb1) (n+1) n O0 O0)
  have HRB:Hid (base<=r):=U (DP HE.out).2.2.2
  have hL1:(Fz now (rs.take (n+1))).length=n:=by rw[SM hn hp hno,List.length_take];omega
  have HB1:Hid (Below base w w1):=U (hb1.mono hbase)
  have hz1:=hb1.size
  have HL1:=U hL1
  have hn1:((n:Int)== -1)=false:=O3
  have hes:(n0:Int)<=9223372036854775807:=O0
  clear hno hb1 hp HI hL1 hn
  go_wp2_with fail
  go_loopw [5,6] (fun i o wr=>∃(j m:Nat),j<=n0/\n+1<=j/\m<j/\o= .int .i64 j/\i= .int .i64 m/\(Fz now (rs.take j)).length=m/\RRow wr r cap (Fz now (rs.take j)) (rs.drop j) j/\w1.heap.size<=wr.heap.size/\Below base w wr) (fun _ i _=>n0-(intOf i).toNat)
  case atStart=>exact⟨n+1,n,O0,O0,O0,by go_num,rfl,HL1.out,HD1.out,Nat.le_refl _,HB1.out⟩
  case round=>
   obtain⟨j,m,hj,hnj,hmj,rfl,rfl,hlen,hd,hz,hb⟩:=hrel
   by_cases hlt:j<n0
   ·have hltr : j < rs.length := by have := HN0.out; omega
    have hpos:0<(rs.drop j).length:=by rw[List.length_drop];omega
    obtain⟨kc,kall,kfz⟩:=hd.cells hpos
    have h0:(rs.drop j)[0]=rs[j]:=by rw[List.getElem_drop];simp
    obtain⟨q,hq⟩:=Rm (rs[j])
    rw[h0, <-hq] at kc
    obtain⟨xf,xi,xn,xa⟩:=q
    have d0:=kc 0 O0;have d1:=kc 1 O0;have d2:=kc 2 O0;have d3:=kc 3 O0
    simp only[rfL,List.getElem?_cons_zero,List.getElem?_cons_succ,Nat.add_zero] at d0 d1 d2 d3
    obtain⟨W1,hW1⟩:=Rm (wr.alloc (.cells #[.string xf,.int .u64 (xi:Nat),.int .i64 xn,.int .u64 (xa:Nat)] 57))
    obtain⟨g,hg⟩:=Rm (wr.heap.size)
    have hb1:Below wr.heap.size wr W1:=by rw[hW1];exact Rl
    have hx1:W1.heap[g]?=some (.cells #[.string xf,.int .u64 (xi:Nat),.int .i64 xn,.int .u64 (xa:Nat)] 57 (0,0)):=by rw[hW1,hg];exact heap_alloc_new _ _
    have hbW1:Below base w W1:=hb.trans (hb1.mono (by have:=hb.size;omega))
    have HC:=U (VN xf xi xn xa now nb W1 ((hbW1.cell (p:=⟨nb,0,none⟩) hnb).trans HNC.out) (by have:=hbW1.size;omega))
    have hdr:r<wr.heap.size:=hd.lt
    have hgl:g<W1.heap.size:=(Array.getElem?_eq_some_iff.1 hx1).1
    have x0:W1.cell? ⟨g,0,none⟩=some (.string xf):=by simp[World.cell?,hx1]
    have x1:W1.cell? ⟨g,1,none⟩=some (.int .u64 (xi:Nat)):=by simp[World.cell?,hx1]
    have x2:W1.cell? ⟨g,2,none⟩=some (.int .i64 xn):=by simp[World.cell?,hx1]
    have x3:W1.cell? ⟨g,3,none⟩=some (.int .u64 (xa:Nat)):=by simp[World.cell?,hx1]
    have HQ:=U hq;have HX1:=U hx1;have HB1':=U hb1;have HD:=U hd;have HB:=U hb;have HLEN:=U hlen
    have KALL:=U kall;have KFZ:=U kfz;have HGL:=U hgl;have H0:=U h0
    replace hW1:=U hW1;replace hg:=U hg
    clear kc kall kfz hx1 hb1 hd hb hlen h0 hq hbW1 hgl
    go_upto_region 8 with fail
    rw[<-hW1.out, <-hg.out]
    clear d0 d1 d2 d3
    go_wp2_with fail
    refine HC.out.mono ?_
    rintro x w2 ⟨rfl,hb2⟩
    have HB2:Hid (Below wr.heap.size wr w2):=U (HB1'.out.trans (hb2.mono HB1'.out.size))
    clear x0 x1 x2 x3
    have hx2:=(hb2.block g HGL.out).trans HX1.out
    have x0:w2.cell? ⟨g,0,none⟩=some (.string xf):=by simp[World.cell?,hx2]
    have x1:w2.cell? ⟨g,1,none⟩=some (.int .u64 (xi:Nat)):=by simp[World.cell?,hx2]
    have x2:w2.cell? ⟨g,2,none⟩=some (.int .i64 xn):=by simp[World.cell?,hx2]
    have x3:w2.cell? ⟨g,3,none⟩=some (.int .u64 (xa:Nat)):=by simp[World.cell?,hx2]
    have hdrop:(rs.drop j).drop 1=rs.drop (j+1):=by rw[List.drop_drop]
    have hwr:base<=wr.heap.size:=by have:=HB.out.size;omega
    have hz2:wr.heap.size<=w2.heap.size:=HB2.out.size
    have HDR:=U hdrop
    have HAT:Hid (rs[j].at'=xa):=U (by rw[<-HQ.out])
    clear hb2 hx2 hdrop HC
    by_cases hqn:xa<=now
    ·have hd1 : decide (xa <= now) = true := by simpa using hqn
     rw[hd1]
     have HP:Hid (rs[j].at'<=now):=U (by rw[HAT.out];exact hqn)
     clear hd1 hqn
     go_wp2_with fail
     go_roundw
     case rel=>exact⟨j+1,m,O0,O0,O0,by go_num,rfl,by rw[Ss hltr HP.out];exact HLEN.out,by rw[Ss hltr HP.out, <-HDR.out];exact(HD.out.later HB2.out).dropOne hpos,O0,HB.out.trans (HB2.out.mono hwr)⟩
     case measure=>simp[intOf];omega
    ·have hd1 : decide (xa <= now) = false := by simpa using hqn
     rw[hd1]
     have HP:Hid (now<rs[j].at'):=U (by rw[HAT.out];omega)
     clear hd1 hqn
     obtain⟨W3,hW3⟩:=Rm (w2.setCells r (m*4) (rfL ⟨xf,xi,xn,xa⟩))
     have hb3:Below base w W3:=by rw[hW3];exact Gq _ _ _ _ _ (HB.out.trans (HB2.out.mono hwr)) HRB.out
     have hz3:W3.heap.size=w2.heap.size:=by rw[hW3];exact OU _ _ _
     have hd3:RRow W3 r cap (Fz now (rs.take j)++ [rs[j]]) (rs.drop (j+1)) (j+1):=by
      have:=(HD.out.later HB2.out).keepOne hpos
      rw[HLEN.out,HDR.out,H0.out] at this
      rw[hW3,HQ.out]
      exact this
     have hfz2:∀o,w2.frozen? ⟨r,o,none⟩=false:=fun o=>(Cm.DO (HB2.out.block r hdr) o).trans (KFZ.out o)
     have hmc:m*4+4<=cap*4:=O0
     have hall2:∀q,q<4->∃u,w2.cell? ⟨r,m*4+q,none⟩=some u:=fun q hq=>by
      obtain⟨u,hu⟩:=KALL.out (m*4+q) O0
      exact⟨u,(HB2.out.cell (p:=⟨r,m*4+q,none⟩) hdr).trans hu⟩
     obtain⟨u0,v0⟩:=hall2 0 O0;obtain⟨u1,v1⟩:=hall2 1 O0;obtain⟨u2,v2⟩:=hall2 2 O0;obtain⟨u3,v3⟩:=hall2 3 O0
     have f0:=hfz2 (m*4);have f1:=hfz2 (m*4+1);have f2:=hfz2 (m*4+2);have f3:=hfz2 (m*4+3)
     simp only[Nat.add_zero] at v0
     have HD3:=U hd3;have HB3:=U hb3;have HZ3:=U hz3
     have hml:m<n0:=O0
     simp only[rfL,World.setCells,Nat.add_assoc,Nat.reduceAdd] at hW3
     replace hW3:=U hW3
     clear hd3 hb3 hz3 hall2 hfz2
     go_upto_region 10 with fail
     rw[<-hW3.out]
     clear v0 v1 v2 v3 f0 f1 f2 f3 x0 x1 x2 x3
     go_wp2_with fail
     go_roundw
     case rel=>exact⟨j+1,m+1,O0,O0,O0,by go_num,by go_num,by rw[Yi hltr HP.out,List.length_append,HLEN.out];rfl,by rw[Yi hltr HP.out];exact HD3.out,by have:=HZ3.out;omega,HB3.out⟩
     case measure=>simp[intOf];omega
   ·obtain rfl : j = n0 := O0
    have e:rs.take j=rs:=by rw[HN0.out,List.take_length]
    rw[e] at hlen hd
    have hml:m<j:=hmj
    have hfz:∀o,wr.frozen? ⟨r,o,none⟩=false:=by
     obtain⟨cur,q1,-⟩:=hd.blk
     intro o;simp[World.frozen?,q1]
    have hall:∀o,o<cap*4->∃u,wr.cell? ⟨r,o,none⟩=some u:=by
     obtain⟨cur,q1,q2,-⟩:=hd.blk
     intro o ho
     exact⟨cur[o]'O0,by simp[World.cell?,q1,Array.getElem?_eq_getElem (show o<cur.size by omega)]⟩
    have hrun:∀ty,∃vs:List Value,vs.length=(j-m)*4/\(Builtin.clear_ #[48] ty #[.slice (some ⟨r,m*4,none⟩) (j-m) (cap-m)]).run Tryz.prog wr= .ok (.tuple #[]) (wr.setCells r (m*4) vs):=fun ty=>
     UG wr ty r (m*4) (j-m) (cap-m) O0 (fun q hq=>hall _ O0) hfz
    obtain⟨vs,hvl,hrun⟩:=hrun 0
    have HFIN:Hid (CIn (wr.setCells r (m*4) vs) (.slice (some ⟨r,0,none⟩) m cap) m 4 ((Fz now rs).flatMap rfL)):=U (by
     have:=hd.cleared vs (by rw[hlen,hvl];omega)
     rwa [hlen] at this)
    have HBF:Hid (Below base w (wr.setCells r (m*4) vs)):=U (Gq _ _ _ _ _ hb HRB.out)
    have hmc:m<=cap:=O0
    have hmc2:¬(cap=m):=O0
    have hsub:((j:Int)-m)=((j-m:Nat):Int):=O0
    have HLEN:=U hlen
    clear hd hb hlen hfz hall e
    go_wp2_with fail
    go_ret
    exact⟨m,rfl,HLEN.out.symm,HFIN.out,HBF.out⟩
open Hi (Dd Dg DN Fg)
open Ev (take_drop tk ap rd1 rd2 Dh)
open Cm (rowOf)
attribute [local go_sem] Oper.semAt_some
theorem Fv {w:World}{base base' k n:Nat}{T:TypeId}{v:Value}{xs:List Value}(h:w.ownsRow base T k v n xs)(hb:base'<=base):w.ownsRow base' T k v n xs:=by
 refine⟨h.1,?_⟩
 rcases h.2 with q|⟨r,cp,cur,q1,q2,q3⟩
 ·exact .inl q
 ·exact .inr ⟨r,cp,cur,q1,Nat.le_trans hb q2,q3⟩
theorem _root_.Go.Proofs.YtaahfiopdoinkaaGreat.Hi.CIn.front {w:World}{rs:List RF}{b cp n j:Nat}(h:CIn w (.slice (some ⟨b,0,none⟩) n cp) n 4 (rs.flatMap rfL))(hn:n=rs.length)(hj:j<=n)(hc:n<=cp):CIn w (.slice (some ⟨b,0,none⟩) j cp) j 4 ((rs.take j).flatMap rfL):=by
 obtain⟨h1,h2,A,c,e,h4,h5,h6⟩:=h
 cases e
 refine⟨by rw[FP,List.length_take];omega,FC _,_,_,rfl,Nat.le_trans hj hc,h5,fun h0=> ?_⟩
 obtain⟨b',off,e,q2,q3⟩:=h6 O0
 cases e
 refine⟨b,0,rfl,q2,fun p x hx=>q3 p x ?_⟩
 have hp:=(List.getElem?_eq_some_iff.1 hx).1
 have e2:rs.flatMap rfL=(rs.take j).flatMap rfL++(rs.drop j).flatMap rfL:=by rw[<-List.flatMap_append,List.take_append_drop]
 rw[e2,List.getElem?_append_left hp];exact hx
theorem _root_.Go.Proofs.YtaahfiopdoinkaaGreat.Hi.CIn.back {w:World}{rs:List RF}{b cp n j:Nat}(h:CIn w (.slice (some ⟨b,0,none⟩) n cp) n 4 (rs.flatMap rfL))(hn:n=rs.length)(hj:j<=n)(hc:n<=cp):CIn w (.slice (if cp=j then some ⟨b,0,none⟩ else some ⟨b,j*4,none⟩) (n-j) (cp-j)) (n-j) 4 ((rs.drop j).flatMap rfL):=by
 obtain⟨h1,h2,A,c,e,h4,h5,h6⟩:=h
 cases e
 refine⟨by rw[FP,List.length_drop];omega,FC _,_,_,rfl,O0,O0,fun h0=> ?_⟩
 obtain⟨b',off,e,q2,q3⟩:=h6 O0
 cases e
 rw[if_neg O0]
 refine⟨b,j*4,rfl,q2,fun p x hx=> ?_⟩
 have e2:rs.flatMap rfL=(rs.take j).flatMap rfL++(rs.drop j).flatMap rfL:=by rw[<-List.flatMap_append,List.take_append_drop]
 have hl:((rs.take j).flatMap rfL).length=j*4:=by rw[FP,List.length_take];omega
 have:=q3 (j*4+p) x (by rw[e2,List.getElem?_append_right O0,hl,show j*4+p-j*4=p by omega];exact hx)
 rwa [Nat.zero_add] at this
theorem M377 (h:p:=by
 go_upto_region 4 with fail
 obtain⟨u0,hu0⟩:∃u,u=wd.drew:=⟨_,rfl⟩
 have HBU:Hid (Below W0.heap.size W0 u0):=U (by rw[hu0];exact Da HBD.out)
 have HBu:Hid (Below u0.heap.size u0 u0):=U (Below.refl _ _)
 have HGU:Hid (gb<u0.heap.size):=U (Nat.lt_of_lt_of_le HGL.out HBU.out.size)
 have HKS:Hid (∀W:World,Below u0.heap.size u0 W->(fun W:World=>(W.cell? ⟨gb,0,none⟩=some (.string rf)/\W.cell? ⟨gb,1,none⟩=some (.int .u64 (ri:Nat))/\W.cell? ⟨gb,2,none⟩=some (.int .i64 rn)/\W.cell? ⟨gb,3,none⟩=some (.int .u64 (ra:Nat)))) W):=U fun W hW=>HCX0.out W ((hW.block gb HGU.out).trans (HBU.out.block gb HGL.out))
 have HCX:Hid (∀W:World,Below u0.heap.size u0 W->(W.cell? ⟨gb,0,none⟩=some (.string rf)/\W.cell? ⟨gb,1,none⟩=some (.int .u64 (ri:Nat))/\W.cell? ⟨gb,2,none⟩=some (.int .i64 rn)/\W.cell? ⟨gb,3,none⟩=some (.int .u64 (ra:Nat)))):=HKS
 have HONE:Hid (∀x∈(#[.string rf,.int .u64 (ri:Nat),.int .i64 rn,.int .u64 (ra:Nat)]:Array Value).toList,x.oneCell'=true):=U (Xq ⟨rf,ri,rn,ra⟩)
 exact Y377):p:=h
theorem M158 (h:p:=by
 rw[<-hu0];exact HKS.out _ (Below.refl _ _)):p:=h
theorem M578 (h:p:=by
 refine wp_region_noPanic ?_
 refine wp_region_held_drew (S:=(fun W:World=>(W.cell? ⟨gb,0,none⟩=some (.string rf)/\W.cell? ⟨gb,1,none⟩=some (.int .u64 (ri:Nat))/\W.cell? ⟨gb,2,none⟩=some (.int .i64 rn)/\W.cell? ⟨gb,3,none⟩=some (.int .u64 (ra:Nat))))) O2 ?_ (fun hHeld=> ?_)
 ·exact M158
 rw[<-hu0] at hHeld
 rw[<-hu0]
 replace hu0:=U hu0
 refine tk 1 rfl ?_
 refine tk 2 rfl ?_
 refine tk 3 rfl ?_
 refine tk 8 rfl ?_
 refine tk 9 rfl ?_
 refine tk 10 rfl ?_
 exact Y578):p:=h
theorem M324 (h:p:=by
 go_simp
 obtain⟨zw0,hc0⟩:∃u,u=u0.alloc (.cells #[] 53):=⟨_,rfl⟩
 rw[<-hc0]
 obtain⟨ia,hia⟩:∃i,i=u0.heap.size:=⟨_,rfl⟩
 rw[<-hia]
 have hbz:Below u0.heap.size u0 zw0:=by rw[hc0];exact Rl
 have HB0:Hid (Below u0.heap.size u0 zw0):=U (HBu.out.trans (hbz.mono HBu.out.size))
 have own0_0:Hid (zw0.ownsRow u0.heap.size 53 4 (.slice (some ⟨ia,0,none⟩) 0 0) 0 []):=U (by rw[hc0,hia];exact World.ownsRow_lit u0 #[] 0 HBu.out.size (Nat.zero_le _) O3)
 clear hbz
 replace hc0:=U hc0
 replace hia:=U hia
 exact Y324):p:=h
theorem M13 (h:p:=by
 refine rd2 4 6 rfl rfl (fun K hK=> ?_) fun K hK=> ?_
 ·refine Dd zw0 rfl _ _ 51 53 rfl i0 _ 4 40 Tryz.underlying51 HSZ.out hi0 hz0 hz1 hz2 rfl O1 u0.heap.size (.slice (some ⟨ia, 0, none⟩) 0 0) (.slice (some ⟨b, 0, none⟩) j cp) 0 j [] ((rs.take j).flatMap rfL) rfl rfl own0_0.out (HIN.out _ HB0.out) (by simp only [maxLen]; omega) O0 HB0.out.size ?_
  intro v1 zw0A hown hgr
  have HB0A:Hid (Below u0.heap.size u0 zw0A):=U (Dg HB0.out hgr (fun r hr=>(own0_0.out.lt r hr).1) HB0.out.size)
  rw[Nat.zero_add,List.nil_append] at hown
  have own1_0A:=U hown
  clear hown hgr
  refine hK.out _ _ (HKS.out _ HB0A.out) (fun hH0AL=> ?_)
  clear hK K hH0L
  try simp only[ap]
  refine rd1 6 rfl fun K hK=> ?_
  go_simp
  obtain⟨zw01A,hc01A⟩:∃u,u=zw0A.alloc (.cells #[.string rf,.int .u64 (ri:Nat),.int .i64 rn,.int .u64 (ra:Nat)] 53):=⟨_,rfl⟩
  rw[<-hc01A]
  obtain⟨ib,hib⟩:∃i,i=zw0A.heap.size:=⟨_,rfl⟩
  rw[<-hib]
  have hbz:Below zw0A.heap.size zw0A zw01A:=by rw[hc01A];exact Rl
  have HB01A:Hid (Below u0.heap.size u0 zw01A):=U (HB0A.out.trans (hbz.mono HB0A.out.size))
  have one_01A:Hid (CIn zw01A (.slice (some ⟨ib,0,none⟩) 1 1) 1 4 #[.string rf,.int .u64 (ri:Nat),.int .i64 rn,.int .u64 (ra:Nat)].toList):=U (by rw[hc01A,hib];exact CIn.new zw0A _ _ rfl HONE.out)
  have own1_01A:=U (Fg own1_0A.out hbz)
  clear hbz
  replace hc01A:=U hc01A
  replace hib:=U hib
  refine hK.out _ _ (HKS.out _ HB01A.out) (fun hH01AL=> ?_)
  clear hK K hH0AL
  try simp only[ap]
  refine rd1 7 rfl fun K hK=> ?_
  refine Dd zw01A rfl _ _ 51 53 rfl i0 _ 4 40 Tryz.underlying51 HSZ.out hi0 hz0 hz1 hz2 rfl O1 u0.heap.size v1 (.slice (some ⟨ib,0,none⟩) 1 1) j 1 ((rs.take j).flatMap rfL) #[.string rf,.int .u64 (ri:Nat),.int .i64 rn,.int .u64 (ra:Nat)].toList rfl rfl own1_01A.out one_01A.out (by simp only[maxLen];omega) O0 HB01A.out.size ?_
  intro v2 zw01AB hown hgr
  have HB01AB:Hid (Below u0.heap.size u0 zw01AB):=U (Dg HB01A.out hgr (fun r hr=>(own1_01A.out.lt r hr).1) HB01A.out.size)
  have own2:=U hown
  clear hown hgr
  refine hK.out _ _ (HKS.out _ HB01AB.out) (fun hH01ABL=> ?_)
  clear hK K hH01AL
  try simp only[ap]
  refine rd1 11 rfl fun K hK=> ?_
  refine Dd zw01AB rfl _ _ 51 53 rfl i0 _ 4 40 Tryz.underlying51 HSZ.out hi0 hz0 hz1 hz2 rfl O1 u0.heap.size v2 (.slice (if cp=j then some ⟨b,0,none⟩ else some ⟨b,j*4,none⟩) (n-j) (cp-j)) (j+1) (n-j) (((rs.take j).flatMap rfL)++ #[.string rf,.int .u64 (ri:Nat),.int .i64 rn,.int .u64 (ra:Nat)].toList) ((rs.drop j).flatMap rfL) rfl rfl own2.out (HIN2.out _ HB01AB.out) (by simp only[maxLen];omega) O0 HB01AB.out.size ?_
  intro vF cF hown hgr
  obtain⟨Ar,cr,rfl,hbr⟩:=DN hown
  have HOF:=U hown
  have HBF:Hid (Below u0.heap.size u0 cF):=U (Dg HB01AB.out hgr (fun r hr=>(own2.out.lt r hr).1) HB01AB.out.size)
  clear hown hgr hbr
  refine hK.out _ _ (HKS.out _ HBF.out) (fun hH01ABCL=> ?_)
  clear hK K hH01ABL
  try simp only[ap]
  refine tk 12 rfl ?_
  refine wpAnyH_done O2 ?_ _
  refine NoPanic.normal ?_
  clear hH01ABCL
  have HIR:Hid ((((rs.take j).flatMap rfL)++(#[.string rf,.int .u64 (ri:Nat),.int .i64 rn,.int .u64 (ra:Nat)]:Array Value).toList)++((rs.drop j).flatMap rfL)=(Ft rs ⟨rf,ri,rn,ra⟩).flatMap rfL):=U (by
   rw[HINS.out];first | rfl|(simp[List.flatMap_append,rfL];done)|(simp only[List.flatMap_append,List.flatMap_cons,rfL,List.append_assoc];rfl))
  have HOT:Hid (cF.ownsRow w.heap.size 53 4 (.slice Ar (j+1+(n-j)) cr) (n+1) ((Ft rs ⟨rf,ri,rn,ra⟩).flatMap rfL)):=U (by
   have h:=Fv HOF.out (show w.heap.size<=u0.heap.size from Nat.le_trans HBW0.out.size HBU.out.size)
   rw[HIR.out] at h
   have e:j+1+(n-j)=n+1:=O0
   rw[e] at h ⊢
   exact h)
  have HBT:Hid (Below w.heap.size w cF):=U (HBW0.out.trans ((HBU.out.trans (HBF.out.mono HBU.out.size)).mono HBW0.out.size))
  go_wp2_with fail
  all_goals
   go_ret
   exact⟨_,rfl,HBT.out,HOT.out⟩
 ·go_simp
  obtain⟨zw01,hc01⟩:∃u,u=zw0.alloc (.cells #[.string rf,.int .u64 (ri:Nat),.int .i64 rn,.int .u64 (ra:Nat)] 53):=⟨_,rfl⟩
  rw[<-hc01]
  obtain⟨ib,hib⟩:∃i,i=zw0.heap.size:=⟨_,rfl⟩
  rw[<-hib]
  have hbz:Below zw0.heap.size zw0 zw01:=by rw[hc01];exact Rl
  have HB01:Hid (Below u0.heap.size u0 zw01):=U (HB0.out.trans (hbz.mono HB0.out.size))
  have one_01:Hid (CIn zw01 (.slice (some ⟨ib,0,none⟩) 1 1) 1 4 #[.string rf,.int .u64 (ri:Nat),.int .i64 rn,.int .u64 (ra:Nat)].toList):=U (by rw[hc01,hib];exact CIn.new zw0 _ _ rfl HONE.out)
  have HNE:Hid (ib≠ia):=U (by have q:=(own0_0.out.lt ia rfl).2;omega)
  have own0_01:=U (Fg own0_0.out hbz)
  clear hbz
  replace hc01:=U hc01
  replace hib:=U hib
  refine hK.out _ _ (HKS.out _ HB01.out) (fun hH01L=> ?_)
  clear hK K hH0L
  try simp only[ap]
  refine rd1 4 rfl fun K hK=> ?_
  refine Dd zw01 rfl _ _ 51 53 rfl i0 _ 4 40 Tryz.underlying51 HSZ.out hi0 hz0 hz1 hz2 rfl O1 u0.heap.size (.slice (some ⟨ia,0,none⟩) 0 0) (.slice (some ⟨b,0,none⟩) j cp) 0 j [] ((rs.take j).flatMap rfL) rfl rfl own0_01.out (HIN.out _ HB01.out) (by simp only[maxLen];omega) O0 HB01.out.size ?_
  intro v1 zw01A hown hgr
  have HB01A:Hid (Below u0.heap.size u0 zw01A):=U (Dg HB01.out hgr (fun r hr=>(own0_01.out.lt r hr).1) HB01.out.size)
  rw[Nat.zero_add,List.nil_append] at hown
  have own1_01A:=U hown
  have one_01A:=U (CIn.grown one_01.out hgr (fun e=>HNE.out (Option.some.inj e)))
  clear hown hgr
  refine hK.out _ _ (HKS.out _ HB01A.out) (fun hH01AL=> ?_)
  clear hK K hH01L
  try simp only[ap]
  refine rd1 7 rfl fun K hK=> ?_
  refine Dd zw01A rfl _ _ 51 53 rfl i0 _ 4 40 Tryz.underlying51 HSZ.out hi0 hz0 hz1 hz2 rfl O1 u0.heap.size v1 (.slice (some ⟨ib,0,none⟩) 1 1) j 1 ((rs.take j).flatMap rfL) #[.string rf,.int .u64 (ri:Nat),.int .i64 rn,.int .u64 (ra:Nat)].toList rfl rfl own1_01A.out one_01A.out (by simp only[maxLen];omega) O0 HB01A.out.size ?_
  intro v2 zw01AB hown hgr
  have HB01AB:Hid (Below u0.heap.size u0 zw01AB):=U (Dg HB01A.out hgr (fun r hr=>(own1_01A.out.lt r hr).1) HB01A.out.size)
  have own2:=U hown
  clear hown hgr
  refine hK.out _ _ (HKS.out _ HB01AB.out) (fun hH01ABL=> ?_)
  clear hK K hH01AL
  try simp only[ap]
  refine rd1 11 rfl fun K hK=> ?_
  refine Dd zw01AB rfl _ _ 51 53 rfl i0 _ 4 40 Tryz.underlying51 HSZ.out hi0 hz0 hz1 hz2 rfl O1 u0.heap.size v2 (.slice (if cp=j then some ⟨b,0,none⟩ else some ⟨b,j*4,none⟩) (n-j) (cp-j)) (j+1) (n-j) (((rs.take j).flatMap rfL)++ #[.string rf,.int .u64 (ri:Nat),.int .i64 rn,.int .u64 (ra:Nat)].toList) ((rs.drop j).flatMap rfL) rfl rfl own2.out (HIN2.out _ HB01AB.out) (by simp only[maxLen];omega) O0 HB01AB.out.size ?_
  intro vF cF hown hgr
  obtain⟨Ar,cr,rfl,hbr⟩:=DN hown
  have HOF:=U hown
  have HBF:Hid (Below u0.heap.size u0 cF):=U (Dg HB01AB.out hgr (fun r hr=>(own2.out.lt r hr).1) HB01AB.out.size)
  clear hown hgr hbr
  refine hK.out _ _ (HKS.out _ HBF.out) (fun hH01ABCL=> ?_)
  clear hK K hH01ABL
  try simp only[ap]
  refine tk 12 rfl ?_
  refine wpAnyH_done O2 ?_ _
  refine NoPanic.normal ?_
  clear hH01ABCL
  have HIR:Hid ((((rs.take j).flatMap rfL)++(#[.string rf,.int .u64 (ri:Nat),.int .i64 rn,.int .u64 (ra:Nat)]:Array Value).toList)++((rs.drop j).flatMap rfL)=(Ft rs ⟨rf,ri,rn,ra⟩).flatMap rfL):=U (by
   rw[HINS.out];first | rfl|(simp[List.flatMap_append,rfL];done)|(simp only[List.flatMap_append,List.flatMap_cons,rfL,List.append_assoc];rfl))
  have HOT:Hid (cF.ownsRow w.heap.size 53 4 (.slice Ar (j+1+(n-j)) cr) (n+1) ((Ft rs ⟨rf,ri,rn,ra⟩).flatMap rfL)):=U (by
   have h:=Fv HOF.out (show w.heap.size<=u0.heap.size from Nat.le_trans HBW0.out.size HBU.out.size)
   rw[HIR.out] at h
   have e:j+1+(n-j)=n+1:=O0
   rw[e] at h ⊢
   exact h)
  have HBT:Hid (Below w.heap.size w cF):=U (HBW0.out.trans ((HBU.out.trans (HBF.out.mono HBU.out.size)).mono HBW0.out.size))
  go_wp2_with fail
  all_goals
   go_ret
   exact⟨_,rfl,HBT.out,HOT.out⟩):p:=h
theorem Q327.Y324 (h:p:=by
 refine hK.out _ _ (HKS.out _ HB0.out) (fun hH0=> ?_)
 clear hK K hHeld
 try simp only[ap]
 refine rd2 4 5 rfl rfl (fun K hK=> ?_) fun K hK=> ?_
 ·refine Dd zw0 rfl _ _ 51 53 rfl i0 _ 4 40 Tryz.underlying51 HSZ.out hi0 hz0 hz1 hz2 rfl O1 u0.heap.size (.slice (some ⟨ia, 0, none⟩) 0 0) (.slice (some ⟨b, 0, none⟩) j cp) 0 j [] ((rs.take j).flatMap rfL) rfl rfl own0_0.out (HIN.out _ HB0.out) (by simp only [maxLen]; omega) O0 HB0.out.size ?_
  intro v1 zw0A hown hgr
  have HB0A:Hid (Below u0.heap.size u0 zw0A):=U (Dg HB0.out hgr (fun r hr=>(own0_0.out.lt r hr).1) HB0.out.size)
  rw[Nat.zero_add,List.nil_append] at hown
  have own1_0A:=U hown
  clear hown hgr
  refine hK.out _ _ (HKS.out _ HB0A.out) (fun hH0A=> ?_)
  clear hK K hH0
  try simp only[ap]
  refine rd1 5 rfl fun K hK=> ?_
  obtain⟨cx0,cx1,cx2,cx3⟩:=HCX.out zw0A HB0A.out
  go_simp
  refine hK.out _ _ (HKS.out _ HB0A.out) (fun hH0AL=> ?_)
  clear hK K hH0A
  try simp only[ap]
  clear cx0 cx1 cx2 cx3
  refine rd1 6 rfl fun K hK=> ?_
  go_simp
  obtain⟨zw01A,hc01A⟩:∃u,u=zw0A.alloc (.cells #[.string rf,.int .u64 (ri:Nat),.int .i64 rn,.int .u64 (ra:Nat)] 53):=⟨_,rfl⟩
  rw[<-hc01A]
  obtain⟨ib,hib⟩:∃i,i=zw0A.heap.size:=⟨_,rfl⟩
  rw[<-hib]
  have hbz:Below zw0A.heap.size zw0A zw01A:=by rw[hc01A];exact Rl
  have HB01A:Hid (Below u0.heap.size u0 zw01A):=U (HB0A.out.trans (hbz.mono HB0A.out.size))
  have one_01A:Hid (CIn zw01A (.slice (some ⟨ib,0,none⟩) 1 1) 1 4 #[.string rf,.int .u64 (ri:Nat),.int .i64 rn,.int .u64 (ra:Nat)].toList):=U (by rw[hc01A,hib];exact CIn.new zw0A _ _ rfl HONE.out)
  have own1_01A:=U (Fg own1_0A.out hbz)
  clear hbz
  replace hc01A:=U hc01A
  replace hib:=U hib
  refine hK.out _ _ (HKS.out _ HB01A.out) (fun hH01AL=> ?_)
  clear hK K hH0AL
  try simp only[ap]
  refine rd1 7 rfl fun K hK=> ?_
  refine Dd zw01A rfl _ _ 51 53 rfl i0 _ 4 40 Tryz.underlying51 HSZ.out hi0 hz0 hz1 hz2 rfl O1 u0.heap.size v1 (.slice (some ⟨ib,0,none⟩) 1 1) j 1 ((rs.take j).flatMap rfL) #[.string rf,.int .u64 (ri:Nat),.int .i64 rn,.int .u64 (ra:Nat)].toList rfl rfl own1_01A.out one_01A.out (by simp only[maxLen];omega) O0 HB01A.out.size ?_
  intro v2 zw01AB hown hgr
  have HB01AB:Hid (Below u0.heap.size u0 zw01AB):=U (Dg HB01A.out hgr (fun r hr=>(own1_01A.out.lt r hr).1) HB01A.out.size)
  have own2:=U hown
  clear hown hgr
  refine hK.out _ _ (HKS.out _ HB01AB.out) (fun hH01ABL=> ?_)
  clear hK K hH01AL
  try simp only[ap]
  refine rd1 11 rfl fun K hK=> ?_
  refine Dd zw01AB rfl _ _ 51 53 rfl i0 _ 4 40 Tryz.underlying51 HSZ.out hi0 hz0 hz1 hz2 rfl O1 u0.heap.size v2 (.slice (if cp=j then some ⟨b,0,none⟩ else some ⟨b,j*4,none⟩) (n-j) (cp-j)) (j+1) (n-j) (((rs.take j).flatMap rfL)++ #[.string rf,.int .u64 (ri:Nat),.int .i64 rn,.int .u64 (ra:Nat)].toList) ((rs.drop j).flatMap rfL) rfl rfl own2.out (HIN2.out _ HB01AB.out) (by simp only[maxLen];omega) O0 HB01AB.out.size ?_
  intro vF cF hown hgr
  obtain⟨Ar,cr,rfl,hbr⟩:=DN hown
  have HOF:=U hown
  have HBF:Hid (Below u0.heap.size u0 cF):=U (Dg HB01AB.out hgr (fun r hr=>(own2.out.lt r hr).1) HB01AB.out.size)
  clear hown hgr hbr
  refine hK.out _ _ (HKS.out _ HBF.out) (fun hH01ABCL=> ?_)
  clear hK K hH01ABL
  try simp only[ap]
  refine tk 12 rfl ?_
  refine wpAnyH_done O2 ?_ _
  refine NoPanic.normal ?_
  clear hH01ABCL
  have HIR:Hid ((((rs.take j).flatMap rfL)++(#[.string rf,.int .u64 (ri:Nat),.int .i64 rn,.int .u64 (ra:Nat)]:Array Value).toList)++((rs.drop j).flatMap rfL)=(Ft rs ⟨rf,ri,rn,ra⟩).flatMap rfL):=U (by
   rw[HINS.out];first | rfl|(simp[List.flatMap_append,rfL];done)|(simp only[List.flatMap_append,List.flatMap_cons,rfL,List.append_assoc];rfl))
  have HOT:Hid (cF.ownsRow w.heap.size 53 4 (.slice Ar (j+1+(n-j)) cr) (n+1) ((Ft rs ⟨rf,ri,rn,ra⟩).flatMap rfL)):=U (by
   have h:=Fv HOF.out (show w.heap.size<=u0.heap.size from Nat.le_trans HBW0.out.size HBU.out.size)
   rw[HIR.out] at h
   have e:j+1+(n-j)=n+1:=O0
   rw[e] at h ⊢
   exact h)
  have HBT:Hid (Below w.heap.size w cF):=U (HBW0.out.trans ((HBU.out.trans (HBF.out.mono HBU.out.size)).mono HBW0.out.size))
  go_wp2_with fail
  all_goals
   go_ret
   exact⟨_,rfl,HBT.out,HOT.out⟩
 ·obtain ⟨cx0, cx1, cx2, cx3⟩ := HCX.out zw0 HB0.out
  go_simp
  refine hK.out _ _ (HKS.out _ HB0.out) (fun hH0L=> ?_)
  clear hK K hH0
  try simp only[ap]
  clear cx0 cx1 cx2 cx3
  exact M13):p:=h
theorem Q328.Y324 (h:p:=by
 refine hK.out _ _ (HKS.out _ HB0.out) (fun hH0L=> ?_)
 clear hK K hHL
 try simp only[ap]
 exact M13):p:=h
theorem Q580.Y578 (h:p:=by
 refine rd2 0 5 rfl rfl (fun K hK=> ?_) fun K hK=> ?_
 ·open Q327 in exact M324
 ·obtain ⟨cx0, cx1, cx2, cx3⟩ := HCX.out u0 HBu.out
  go_simp
  refine hK.out _ _ (HKS.out _ HBu.out) (fun hHL=> ?_)
  clear hK K hHeld
  try simp only[ap]
  clear cx0 cx1 cx2 cx3
  refine rd2 0 6 rfl rfl (fun K hK=> ?_) fun K hK=> ?_
  ·open Q328 in exact M324
  ·go_simp
   obtain⟨zw1,hc1⟩:∃u,u=u0.alloc (.cells #[.string rf,.int .u64 (ri:Nat),.int .i64 rn,.int .u64 (ra:Nat)] 53):=⟨_,rfl⟩
   rw[<-hc1]
   obtain⟨ib,hib⟩:∃i,i=u0.heap.size:=⟨_,rfl⟩
   rw[<-hib]
   have hbz:Below u0.heap.size u0 zw1:=by rw[hc1];exact Rl
   have HB1:Hid (Below u0.heap.size u0 zw1):=U (HBu.out.trans (hbz.mono HBu.out.size))
   have one_1:Hid (CIn zw1 (.slice (some ⟨ib,0,none⟩) 1 1) 1 4 #[.string rf,.int .u64 (ri:Nat),.int .i64 rn,.int .u64 (ra:Nat)].toList):=U (by rw[hc1,hib];exact CIn.new u0 _ _ rfl HONE.out)
   clear hbz
   replace hc1:=U hc1
   replace hib:=U hib
   refine hK.out _ _ (HKS.out _ HB1.out) (fun hH1L=> ?_)
   clear hK K hHL
   try simp only[ap]
   refine rd1 0 rfl fun K hK=> ?_
   go_simp
   obtain⟨zw01,hc01⟩:∃u,u=zw1.alloc (.cells #[] 53):=⟨_,rfl⟩
   rw[<-hc01]
   obtain⟨ia,hia⟩:∃i,i=zw1.heap.size:=⟨_,rfl⟩
   rw[<-hia]
   have hbz:Below zw1.heap.size zw1 zw01:=by rw[hc01];exact Rl
   have HB01:Hid (Below u0.heap.size u0 zw01):=U (HB1.out.trans (hbz.mono HB1.out.size))
   have own0_01:Hid (zw01.ownsRow u0.heap.size 53 4 (.slice (some ⟨ia,0,none⟩) 0 0) 0 []):=U (by rw[hc01,hia];exact World.ownsRow_lit zw1 #[] 0 HB1.out.size (Nat.zero_le _) O3)
   have HNE:Hid (ib≠ia):=U (by have q:ib<zw1.heap.size:=one_1.out.lt;omega)
   have one_01:=U (CIn.later one_1.out hbz)
   clear hbz
   replace hc01:=U hc01
   replace hia:=U hia
   refine hK.out _ _ (HKS.out _ HB01.out) (fun hH01L=> ?_)
   clear hK K hH1L
   try simp only[ap]
   refine rd1 4 rfl fun K hK=> ?_
   refine Dd zw01 rfl _ _ 51 53 rfl i0 _ 4 40 Tryz.underlying51 HSZ.out hi0 hz0 hz1 hz2 rfl O1 u0.heap.size (.slice (some ⟨ia,0,none⟩) 0 0) (.slice (some ⟨b,0,none⟩) j cp) 0 j [] ((rs.take j).flatMap rfL) rfl rfl own0_01.out (HIN.out _ HB01.out) (by simp only[maxLen];omega) O0 HB01.out.size ?_
   intro v1 zw01A hown hgr
   have HB01A:Hid (Below u0.heap.size u0 zw01A):=U (Dg HB01.out hgr (fun r hr=>(own0_01.out.lt r hr).1) HB01.out.size)
   rw[Nat.zero_add,List.nil_append] at hown
   have own1_01A:=U hown
   have one_01A:=U (CIn.grown one_01.out hgr (fun e=>HNE.out (Option.some.inj e)))
   clear hown hgr
   refine hK.out _ _ (HKS.out _ HB01A.out) (fun hH01AL=> ?_)
   clear hK K hH01L
   try simp only[ap]
   refine rd1 7 rfl fun K hK=> ?_
   refine Dd zw01A rfl _ _ 51 53 rfl i0 _ 4 40 Tryz.underlying51 HSZ.out hi0 hz0 hz1 hz2 rfl O1 u0.heap.size v1 (.slice (some ⟨ib,0,none⟩) 1 1) j 1 ((rs.take j).flatMap rfL) #[.string rf,.int .u64 (ri:Nat),.int .i64 rn,.int .u64 (ra:Nat)].toList rfl rfl own1_01A.out one_01A.out (by simp only[maxLen];omega) O0 HB01A.out.size ?_
   intro v2 zw01AB hown hgr
   have HB01AB:Hid (Below u0.heap.size u0 zw01AB):=U (Dg HB01A.out hgr (fun r hr=>(own1_01A.out.lt r hr).1) HB01A.out.size)
   have own2:=U hown
   clear hown hgr
   refine hK.out _ _ (HKS.out _ HB01AB.out) (fun hH01ABL=> ?_)
   clear hK K hH01AL
   try simp only[ap]
   refine rd1 11 rfl fun K hK=> ?_
   refine Dd zw01AB rfl _ _ 51 53 rfl i0 _ 4 40 Tryz.underlying51 HSZ.out hi0 hz0 hz1 hz2 rfl O1 u0.heap.size v2 (.slice (if cp=j then some ⟨b,0,none⟩ else some ⟨b,j*4,none⟩) (n-j) (cp-j)) (j+1) (n-j) (((rs.take j).flatMap rfL)++ #[.string rf,.int .u64 (ri:Nat),.int .i64 rn,.int .u64 (ra:Nat)].toList) ((rs.drop j).flatMap rfL) rfl rfl own2.out (HIN2.out _ HB01AB.out) (by simp only[maxLen];omega) O0 HB01AB.out.size ?_
   intro vF cF hown hgr
   obtain⟨Ar,cr,rfl,hbr⟩:=DN hown
   have HOF:=U hown
   have HBF:Hid (Below u0.heap.size u0 cF):=U (Dg HB01AB.out hgr (fun r hr=>(own2.out.lt r hr).1) HB01AB.out.size)
   clear hown hgr hbr
   refine hK.out _ _ (HKS.out _ HBF.out) (fun hH01ABCL=> ?_)
   clear hK K hH01ABL
   try simp only[ap]
   refine tk 12 rfl ?_
   refine wpAnyH_done O2 ?_ _
   refine NoPanic.normal ?_
   clear hH01ABCL
   have HIR:Hid ((((rs.take j).flatMap rfL)++(#[.string rf,.int .u64 (ri:Nat),.int .i64 rn,.int .u64 (ra:Nat)]:Array Value).toList)++((rs.drop j).flatMap rfL)=(Ft rs ⟨rf,ri,rn,ra⟩).flatMap rfL):=U (by
    rw[HINS.out];first | rfl|(simp[List.flatMap_append,rfL];done)|(simp only[List.flatMap_append,List.flatMap_cons,rfL,List.append_assoc];rfl))
   have HOT:Hid (cF.ownsRow w.heap.size 53 4 (.slice Ar (j+1+(n-j)) cr) (n+1) ((Ft rs ⟨rf,ri,rn,ra⟩).flatMap rfL)):=U (by
    have h:=Fv HOF.out (show w.heap.size<=u0.heap.size from Nat.le_trans HBW0.out.size HBU.out.size)
    rw[HIR.out] at h
    have e:j+1+(n-j)=n+1:=O0
    rw[e] at h ⊢
    exact h)
   have HBT:Hid (Below w.heap.size w cF):=U (HBW0.out.trans ((HBU.out.trans (HBF.out.mono HBU.out.size)).mono HBW0.out.size))
   go_wp2_with fail
   all_goals
    go_ret
    exact⟨_,rfl,HBT.out,HOT.out⟩):p:=h
theorem Q379.Y377 (h:p:=by
 have HIN:Hid (∀W:World,Below u0.heap.size u0 W->CIn W (.slice (some ⟨b,0,none⟩) j cp) j 4 ((rs.take j).flatMap rfL)):=U fun W hW=>(HIN0.out.later (HBU.out.trans (hW.mono HBU.out.size))).front HN.out hj hc0
 have HIN2:Hid (∀W:World,Below u0.heap.size u0 W->CIn W (.slice (if cp=j then some ⟨b,0,none⟩ else some ⟨b,j*4,none⟩) (n-j) (cp-j)) (n-j) 4 ((rs.drop j).flatMap rfL)):=U fun W hW=>(HIN0.out.later (HBU.out.trans (hW.mono HBU.out.size))).back HN.out hj hc0
 open Q580 in exact M578):p:=h
theorem M1 (h:p:=by
 have hjcp:j<=cp:=O0
 have hjcz:(j:Int)<=(cp:Int):=O0
 have hj0:(0:Int)<=(j:Int):=O0
 have hjnz:(j:Int)<=(n:Int):=O0
 have hncz:(n:Int)<=(cp:Int):=O0
 open Q379 in exact M377):p:=h
theorem M16 (h:p:=by
 refine rd2 4 6 rfl rfl (fun K hK=> ?_) fun K hK=> ?_
 ·refine Dd zw0 rfl _ _ 51 53 rfl i0 _ 4 40 Tryz.underlying51 HSZ.out hi0 hz0 hz1 hz2 rfl O1 u0.heap.size (.slice (some ⟨ia, 0, none⟩) 0 0) (.slice none 0 0) 0 0 [] ([] : List Value) rfl rfl own0_0.out (HIN.out _ HB0.out) (by simp only [maxLen]; omega) O0 HB0.out.size ?_
  intro v1 zw0A hown hgr
  have HB0A:Hid (Below u0.heap.size u0 zw0A):=U (Dg HB0.out hgr (fun r hr=>(own0_0.out.lt r hr).1) HB0.out.size)
  rw[Nat.zero_add,List.nil_append] at hown
  have own1_0A:=U hown
  clear hown hgr
  refine hK.out _ _ (HKS.out _ HB0A.out) (fun hH0AL=> ?_)
  clear hK K hH0L
  try simp only[ap]
  refine rd1 6 rfl fun K hK=> ?_
  go_simp
  obtain⟨zw01A,hc01A⟩:∃u,u=zw0A.alloc (.cells #[.string rf,.int .u64 (ri:Nat),.int .i64 rn,.int .u64 (ra:Nat)] 53):=⟨_,rfl⟩
  rw[<-hc01A]
  obtain⟨ib,hib⟩:∃i,i=zw0A.heap.size:=⟨_,rfl⟩
  rw[<-hib]
  have hbz:Below zw0A.heap.size zw0A zw01A:=by rw[hc01A];exact Rl
  have HB01A:Hid (Below u0.heap.size u0 zw01A):=U (HB0A.out.trans (hbz.mono HB0A.out.size))
  have one_01A:Hid (CIn zw01A (.slice (some ⟨ib,0,none⟩) 1 1) 1 4 #[.string rf,.int .u64 (ri:Nat),.int .i64 rn,.int .u64 (ra:Nat)].toList):=U (by rw[hc01A,hib];exact CIn.new zw0A _ _ rfl HONE.out)
  have own1_01A:=U (Fg own1_0A.out hbz)
  clear hbz
  replace hc01A:=U hc01A
  replace hib:=U hib
  refine hK.out _ _ (HKS.out _ HB01A.out) (fun hH01AL=> ?_)
  clear hK K hH0AL
  try simp only[ap]
  refine rd1 7 rfl fun K hK=> ?_
  refine Dd zw01A rfl _ _ 51 53 rfl i0 _ 4 40 Tryz.underlying51 HSZ.out hi0 hz0 hz1 hz2 rfl O1 u0.heap.size v1 (.slice (some ⟨ib,0,none⟩) 1 1) 0 1 ([]:List Value) #[.string rf,.int .u64 (ri:Nat),.int .i64 rn,.int .u64 (ra:Nat)].toList rfl rfl own1_01A.out one_01A.out (by simp only[maxLen];omega) O0 HB01A.out.size ?_
  intro v2 zw01AB hown hgr
  have HB01AB:Hid (Below u0.heap.size u0 zw01AB):=U (Dg HB01A.out hgr (fun r hr=>(own1_01A.out.lt r hr).1) HB01A.out.size)
  have own2:=U hown
  clear hown hgr
  refine hK.out _ _ (HKS.out _ HB01AB.out) (fun hH01ABL=> ?_)
  clear hK K hH01AL
  try simp only[ap]
  refine rd1 11 rfl fun K hK=> ?_
  refine Dd zw01AB rfl _ _ 51 53 rfl i0 _ 4 40 Tryz.underlying51 HSZ.out hi0 hz0 hz1 hz2 rfl O1 u0.heap.size v2 (.slice none 0 0) (0+1) 0 (([]:List Value)++ #[.string rf,.int .u64 (ri:Nat),.int .i64 rn,.int .u64 (ra:Nat)].toList) ([]:List Value) rfl rfl own2.out (HIN2.out _ HB01AB.out) (by simp only[maxLen];omega) O0 HB01AB.out.size ?_
  intro vF cF hown hgr
  obtain⟨Ar,cr,rfl,hbr⟩:=DN hown
  have HOF:=U hown
  have HBF:Hid (Below u0.heap.size u0 cF):=U (Dg HB01AB.out hgr (fun r hr=>(own2.out.lt r hr).1) HB01AB.out.size)
  clear hown hgr hbr
  refine hK.out _ _ (HKS.out _ HBF.out) (fun hH01ABCL=> ?_)
  clear hK K hH01ABL
  try simp only[ap]
  refine tk 12 rfl ?_
  refine wpAnyH_done O2 ?_ _
  refine NoPanic.normal ?_
  clear hH01ABCL
  have HIR:Hid ((([]:List Value)++(#[.string rf,.int .u64 (ri:Nat),.int .i64 rn,.int .u64 (ra:Nat)]:Array Value).toList)++([]:List Value)=(Ft rs ⟨rf,ri,rn,ra⟩).flatMap rfL):=U (by
   rw[HINS.out];first | rfl|(simp[List.flatMap_append,rfL];done)|(simp only[List.flatMap_append,List.flatMap_cons,rfL,List.append_assoc];rfl))
  have HOT:Hid (cF.ownsRow w.heap.size 53 4 (.slice Ar (0+1+0) cr) (0+1) ((Ft rs ⟨rf,ri,rn,ra⟩).flatMap rfL)):=U (by
   have h:=Fv HOF.out (show w.heap.size<=u0.heap.size from Nat.le_trans HBW0.out.size HBU.out.size)
   rw[HIR.out] at h
   have e:0+1+0=0+1:=O0
   rw[e] at h ⊢
   exact h)
  have HBT:Hid (Below w.heap.size w cF):=U (HBW0.out.trans ((HBU.out.trans (HBF.out.mono HBU.out.size)).mono HBW0.out.size))
  go_wp2_with fail
  all_goals
   go_ret
   exact⟨_,rfl,HBT.out,HOT.out⟩
 ·go_simp
  obtain⟨zw01,hc01⟩:∃u,u=zw0.alloc (.cells #[.string rf,.int .u64 (ri:Nat),.int .i64 rn,.int .u64 (ra:Nat)] 53):=⟨_,rfl⟩
  rw[<-hc01]
  obtain⟨ib,hib⟩:∃i,i=zw0.heap.size:=⟨_,rfl⟩
  rw[<-hib]
  have hbz:Below zw0.heap.size zw0 zw01:=by rw[hc01];exact Rl
  have HB01:Hid (Below u0.heap.size u0 zw01):=U (HB0.out.trans (hbz.mono HB0.out.size))
  have one_01:Hid (CIn zw01 (.slice (some ⟨ib,0,none⟩) 1 1) 1 4 #[.string rf,.int .u64 (ri:Nat),.int .i64 rn,.int .u64 (ra:Nat)].toList):=U (by rw[hc01,hib];exact CIn.new zw0 _ _ rfl HONE.out)
  have HNE:Hid (ib≠ia):=U (by have q:=(own0_0.out.lt ia rfl).2;omega)
  have own0_01:=U (Fg own0_0.out hbz)
  clear hbz
  replace hc01:=U hc01
  replace hib:=U hib
  refine hK.out _ _ (HKS.out _ HB01.out) (fun hH01L=> ?_)
  clear hK K hH0L
  try simp only[ap]
  refine rd1 4 rfl fun K hK=> ?_
  refine Dd zw01 rfl _ _ 51 53 rfl i0 _ 4 40 Tryz.underlying51 HSZ.out hi0 hz0 hz1 hz2 rfl O1 u0.heap.size (.slice (some ⟨ia,0,none⟩) 0 0) (.slice none 0 0) 0 0 [] ([]:List Value) rfl rfl own0_01.out (HIN.out _ HB01.out) (by simp only[maxLen];omega) O0 HB01.out.size ?_
  intro v1 zw01A hown hgr
  have HB01A:Hid (Below u0.heap.size u0 zw01A):=U (Dg HB01.out hgr (fun r hr=>(own0_01.out.lt r hr).1) HB01.out.size)
  rw[Nat.zero_add,List.nil_append] at hown
  have own1_01A:=U hown
  have one_01A:=U (CIn.grown one_01.out hgr (fun e=>HNE.out (Option.some.inj e)))
  clear hown hgr
  refine hK.out _ _ (HKS.out _ HB01A.out) (fun hH01AL=> ?_)
  clear hK K hH01L
  try simp only[ap]
  refine rd1 7 rfl fun K hK=> ?_
  refine Dd zw01A rfl _ _ 51 53 rfl i0 _ 4 40 Tryz.underlying51 HSZ.out hi0 hz0 hz1 hz2 rfl O1 u0.heap.size v1 (.slice (some ⟨ib,0,none⟩) 1 1) 0 1 ([]:List Value) #[.string rf,.int .u64 (ri:Nat),.int .i64 rn,.int .u64 (ra:Nat)].toList rfl rfl own1_01A.out one_01A.out (by simp only[maxLen];omega) O0 HB01A.out.size ?_
  intro v2 zw01AB hown hgr
  have HB01AB:Hid (Below u0.heap.size u0 zw01AB):=U (Dg HB01A.out hgr (fun r hr=>(own1_01A.out.lt r hr).1) HB01A.out.size)
  have own2:=U hown
  clear hown hgr
  refine hK.out _ _ (HKS.out _ HB01AB.out) (fun hH01ABL=> ?_)
  clear hK K hH01AL
  try simp only[ap]
  refine rd1 11 rfl fun K hK=> ?_
  refine Dd zw01AB rfl _ _ 51 53 rfl i0 _ 4 40 Tryz.underlying51 HSZ.out hi0 hz0 hz1 hz2 rfl O1 u0.heap.size v2 (.slice none 0 0) (0+1) 0 (([]:List Value)++ #[.string rf,.int .u64 (ri:Nat),.int .i64 rn,.int .u64 (ra:Nat)].toList) ([]:List Value) rfl rfl own2.out (HIN2.out _ HB01AB.out) (by simp only[maxLen];omega) O0 HB01AB.out.size ?_
  intro vF cF hown hgr
  obtain⟨Ar,cr,rfl,hbr⟩:=DN hown
  have HOF:=U hown
  have HBF:Hid (Below u0.heap.size u0 cF):=U (Dg HB01AB.out hgr (fun r hr=>(own2.out.lt r hr).1) HB01AB.out.size)
  clear hown hgr hbr
  refine hK.out _ _ (HKS.out _ HBF.out) (fun hH01ABCL=> ?_)
  clear hK K hH01ABL
  try simp only[ap]
  refine tk 12 rfl ?_
  refine wpAnyH_done O2 ?_ _
  refine NoPanic.normal ?_
  clear hH01ABCL
  have HIR:Hid ((([]:List Value)++(#[.string rf,.int .u64 (ri:Nat),.int .i64 rn,.int .u64 (ra:Nat)]:Array Value).toList)++([]:List Value)=(Ft rs ⟨rf,ri,rn,ra⟩).flatMap rfL):=U (by
   rw[HINS.out];first | rfl|(simp[List.flatMap_append,rfL];done)|(simp only[List.flatMap_append,List.flatMap_cons,rfL,List.append_assoc];rfl))
  have HOT:Hid (cF.ownsRow w.heap.size 53 4 (.slice Ar (0+1+0) cr) (0+1) ((Ft rs ⟨rf,ri,rn,ra⟩).flatMap rfL)):=U (by
   have h:=Fv HOF.out (show w.heap.size<=u0.heap.size from Nat.le_trans HBW0.out.size HBU.out.size)
   rw[HIR.out] at h
   have e:0+1+0=0+1:=O0
   rw[e] at h ⊢
   exact h)
  have HBT:Hid (Below w.heap.size w cF):=U (HBW0.out.trans ((HBU.out.trans (HBF.out.mono HBU.out.size)).mono HBW0.out.size))
  go_wp2_with fail
  all_goals
   go_ret
   exact⟨_,rfl,HBT.out,HOT.out⟩):p:=h
theorem Q325.Y324 (h:p:=by
 refine hK.out _ _ (HKS.out _ HB0.out) (fun hH0=> ?_)
 clear hK K hHeld
 try simp only[ap]
 refine rd2 4 5 rfl rfl (fun K hK=> ?_) fun K hK=> ?_
 ·refine Dd zw0 rfl _ _ 51 53 rfl i0 _ 4 40 Tryz.underlying51 HSZ.out hi0 hz0 hz1 hz2 rfl O1 u0.heap.size (.slice (some ⟨ia, 0, none⟩) 0 0) (.slice none 0 0) 0 0 [] ([] : List Value) rfl rfl own0_0.out (HIN.out _ HB0.out) (by simp only [maxLen]; omega) O0 HB0.out.size ?_
  intro v1 zw0A hown hgr
  have HB0A:Hid (Below u0.heap.size u0 zw0A):=U (Dg HB0.out hgr (fun r hr=>(own0_0.out.lt r hr).1) HB0.out.size)
  rw[Nat.zero_add,List.nil_append] at hown
  have own1_0A:=U hown
  clear hown hgr
  refine hK.out _ _ (HKS.out _ HB0A.out) (fun hH0A=> ?_)
  clear hK K hH0
  try simp only[ap]
  refine rd1 5 rfl fun K hK=> ?_
  obtain⟨cx0,cx1,cx2,cx3⟩:=HCX.out zw0A HB0A.out
  go_simp
  refine hK.out _ _ (HKS.out _ HB0A.out) (fun hH0AL=> ?_)
  clear hK K hH0A
  try simp only[ap]
  clear cx0 cx1 cx2 cx3
  refine rd1 6 rfl fun K hK=> ?_
  go_simp
  obtain⟨zw01A,hc01A⟩:∃u,u=zw0A.alloc (.cells #[.string rf,.int .u64 (ri:Nat),.int .i64 rn,.int .u64 (ra:Nat)] 53):=⟨_,rfl⟩
  rw[<-hc01A]
  obtain⟨ib,hib⟩:∃i,i=zw0A.heap.size:=⟨_,rfl⟩
  rw[<-hib]
  have hbz:Below zw0A.heap.size zw0A zw01A:=by rw[hc01A];exact Rl
  have HB01A:Hid (Below u0.heap.size u0 zw01A):=U (HB0A.out.trans (hbz.mono HB0A.out.size))
  have one_01A:Hid (CIn zw01A (.slice (some ⟨ib,0,none⟩) 1 1) 1 4 #[.string rf,.int .u64 (ri:Nat),.int .i64 rn,.int .u64 (ra:Nat)].toList):=U (by rw[hc01A,hib];exact CIn.new zw0A _ _ rfl HONE.out)
  have own1_01A:=U (Fg own1_0A.out hbz)
  clear hbz
  replace hc01A:=U hc01A
  replace hib:=U hib
  refine hK.out _ _ (HKS.out _ HB01A.out) (fun hH01AL=> ?_)
  clear hK K hH0AL
  try simp only[ap]
  refine rd1 7 rfl fun K hK=> ?_
  refine Dd zw01A rfl _ _ 51 53 rfl i0 _ 4 40 Tryz.underlying51 HSZ.out hi0 hz0 hz1 hz2 rfl O1 u0.heap.size v1 (.slice (some ⟨ib,0,none⟩) 1 1) 0 1 ([]:List Value) #[.string rf,.int .u64 (ri:Nat),.int .i64 rn,.int .u64 (ra:Nat)].toList rfl rfl own1_01A.out one_01A.out (by simp only[maxLen];omega) O0 HB01A.out.size ?_
  intro v2 zw01AB hown hgr
  have HB01AB:Hid (Below u0.heap.size u0 zw01AB):=U (Dg HB01A.out hgr (fun r hr=>(own1_01A.out.lt r hr).1) HB01A.out.size)
  have own2:=U hown
  clear hown hgr
  refine hK.out _ _ (HKS.out _ HB01AB.out) (fun hH01ABL=> ?_)
  clear hK K hH01AL
  try simp only[ap]
  refine rd1 11 rfl fun K hK=> ?_
  refine Dd zw01AB rfl _ _ 51 53 rfl i0 _ 4 40 Tryz.underlying51 HSZ.out hi0 hz0 hz1 hz2 rfl O1 u0.heap.size v2 (.slice none 0 0) (0+1) 0 (([]:List Value)++ #[.string rf,.int .u64 (ri:Nat),.int .i64 rn,.int .u64 (ra:Nat)].toList) ([]:List Value) rfl rfl own2.out (HIN2.out _ HB01AB.out) (by simp only[maxLen];omega) O0 HB01AB.out.size ?_
  intro vF cF hown hgr
  obtain⟨Ar,cr,rfl,hbr⟩:=DN hown
  have HOF:=U hown
  have HBF:Hid (Below u0.heap.size u0 cF):=U (Dg HB01AB.out hgr (fun r hr=>(own2.out.lt r hr).1) HB01AB.out.size)
  clear hown hgr hbr
  refine hK.out _ _ (HKS.out _ HBF.out) (fun hH01ABCL=> ?_)
  clear hK K hH01ABL
  try simp only[ap]
  refine tk 12 rfl ?_
  refine wpAnyH_done O2 ?_ _
  refine NoPanic.normal ?_
  clear hH01ABCL
  have HIR:Hid ((([]:List Value)++(#[.string rf,.int .u64 (ri:Nat),.int .i64 rn,.int .u64 (ra:Nat)]:Array Value).toList)++([]:List Value)=(Ft rs ⟨rf,ri,rn,ra⟩).flatMap rfL):=U (by
   rw[HINS.out];first | rfl|(simp[List.flatMap_append,rfL];done)|(simp only[List.flatMap_append,List.flatMap_cons,rfL,List.append_assoc];rfl))
  have HOT:Hid (cF.ownsRow w.heap.size 53 4 (.slice Ar (0+1+0) cr) (0+1) ((Ft rs ⟨rf,ri,rn,ra⟩).flatMap rfL)):=U (by
   have h:=Fv HOF.out (show w.heap.size<=u0.heap.size from Nat.le_trans HBW0.out.size HBU.out.size)
   rw[HIR.out] at h
   have e:0+1+0=0+1:=O0
   rw[e] at h ⊢
   exact h)
  have HBT:Hid (Below w.heap.size w cF):=U (HBW0.out.trans ((HBU.out.trans (HBF.out.mono HBU.out.size)).mono HBW0.out.size))
  go_wp2_with fail
  all_goals
   go_ret
   exact⟨_,rfl,HBT.out,HOT.out⟩
 ·obtain ⟨cx0, cx1, cx2, cx3⟩ := HCX.out zw0 HB0.out
  go_simp
  refine hK.out _ _ (HKS.out _ HB0.out) (fun hH0L=> ?_)
  clear hK K hH0
  try simp only[ap]
  clear cx0 cx1 cx2 cx3
  exact M16):p:=h
theorem Q326.Y324 (h:p:=by
 refine hK.out _ _ (HKS.out _ HB0.out) (fun hH0L=> ?_)
 clear hK K hHL
 try simp only[ap]
 exact M16):p:=h
theorem Q579.Y578 (h:p:=by
 refine rd2 0 5 rfl rfl (fun K hK=> ?_) fun K hK=> ?_
 ·open Q325 in exact M324
 ·obtain ⟨cx0, cx1, cx2, cx3⟩ := HCX.out u0 HBu.out
  go_simp
  refine hK.out _ _ (HKS.out _ HBu.out) (fun hHL=> ?_)
  clear hK K hHeld
  try simp only[ap]
  clear cx0 cx1 cx2 cx3
  refine rd2 0 6 rfl rfl (fun K hK=> ?_) fun K hK=> ?_
  ·open Q326 in exact M324
  ·go_simp
   obtain⟨zw1,hc1⟩:∃u,u=u0.alloc (.cells #[.string rf,.int .u64 (ri:Nat),.int .i64 rn,.int .u64 (ra:Nat)] 53):=⟨_,rfl⟩
   rw[<-hc1]
   obtain⟨ib,hib⟩:∃i,i=u0.heap.size:=⟨_,rfl⟩
   rw[<-hib]
   have hbz:Below u0.heap.size u0 zw1:=by rw[hc1];exact Rl
   have HB1:Hid (Below u0.heap.size u0 zw1):=U (HBu.out.trans (hbz.mono HBu.out.size))
   have one_1:Hid (CIn zw1 (.slice (some ⟨ib,0,none⟩) 1 1) 1 4 #[.string rf,.int .u64 (ri:Nat),.int .i64 rn,.int .u64 (ra:Nat)].toList):=U (by rw[hc1,hib];exact CIn.new u0 _ _ rfl HONE.out)
   clear hbz
   replace hc1:=U hc1
   replace hib:=U hib
   refine hK.out _ _ (HKS.out _ HB1.out) (fun hH1L=> ?_)
   clear hK K hHL
   try simp only[ap]
   refine rd1 0 rfl fun K hK=> ?_
   go_simp
   obtain⟨zw01,hc01⟩:∃u,u=zw1.alloc (.cells #[] 53):=⟨_,rfl⟩
   rw[<-hc01]
   obtain⟨ia,hia⟩:∃i,i=zw1.heap.size:=⟨_,rfl⟩
   rw[<-hia]
   have hbz:Below zw1.heap.size zw1 zw01:=by rw[hc01];exact Rl
   have HB01:Hid (Below u0.heap.size u0 zw01):=U (HB1.out.trans (hbz.mono HB1.out.size))
   have own0_01:Hid (zw01.ownsRow u0.heap.size 53 4 (.slice (some ⟨ia,0,none⟩) 0 0) 0 []):=U (by rw[hc01,hia];exact World.ownsRow_lit zw1 #[] 0 HB1.out.size (Nat.zero_le _) O3)
   have HNE:Hid (ib≠ia):=U (by have q:ib<zw1.heap.size:=one_1.out.lt;omega)
   have one_01:=U (CIn.later one_1.out hbz)
   clear hbz
   replace hc01:=U hc01
   replace hia:=U hia
   refine hK.out _ _ (HKS.out _ HB01.out) (fun hH01L=> ?_)
   clear hK K hH1L
   try simp only[ap]
   refine rd1 4 rfl fun K hK=> ?_
   refine Dd zw01 rfl _ _ 51 53 rfl i0 _ 4 40 Tryz.underlying51 HSZ.out hi0 hz0 hz1 hz2 rfl O1 u0.heap.size (.slice (some ⟨ia,0,none⟩) 0 0) (.slice none 0 0) 0 0 [] ([]:List Value) rfl rfl own0_01.out (HIN.out _ HB01.out) (by simp only[maxLen];omega) O0 HB01.out.size ?_
   intro v1 zw01A hown hgr
   have HB01A:Hid (Below u0.heap.size u0 zw01A):=U (Dg HB01.out hgr (fun r hr=>(own0_01.out.lt r hr).1) HB01.out.size)
   rw[Nat.zero_add,List.nil_append] at hown
   have own1_01A:=U hown
   have one_01A:=U (CIn.grown one_01.out hgr (fun e=>HNE.out (Option.some.inj e)))
   clear hown hgr
   refine hK.out _ _ (HKS.out _ HB01A.out) (fun hH01AL=> ?_)
   clear hK K hH01L
   try simp only[ap]
   refine rd1 7 rfl fun K hK=> ?_
   refine Dd zw01A rfl _ _ 51 53 rfl i0 _ 4 40 Tryz.underlying51 HSZ.out hi0 hz0 hz1 hz2 rfl O1 u0.heap.size v1 (.slice (some ⟨ib,0,none⟩) 1 1) 0 1 ([]:List Value) #[.string rf,.int .u64 (ri:Nat),.int .i64 rn,.int .u64 (ra:Nat)].toList rfl rfl own1_01A.out one_01A.out (by simp only[maxLen];omega) O0 HB01A.out.size ?_
   intro v2 zw01AB hown hgr
   have HB01AB:Hid (Below u0.heap.size u0 zw01AB):=U (Dg HB01A.out hgr (fun r hr=>(own1_01A.out.lt r hr).1) HB01A.out.size)
   have own2:=U hown
   clear hown hgr
   refine hK.out _ _ (HKS.out _ HB01AB.out) (fun hH01ABL=> ?_)
   clear hK K hH01AL
   try simp only[ap]
   refine rd1 11 rfl fun K hK=> ?_
   refine Dd zw01AB rfl _ _ 51 53 rfl i0 _ 4 40 Tryz.underlying51 HSZ.out hi0 hz0 hz1 hz2 rfl O1 u0.heap.size v2 (.slice none 0 0) (0+1) 0 (([]:List Value)++ #[.string rf,.int .u64 (ri:Nat),.int .i64 rn,.int .u64 (ra:Nat)].toList) ([]:List Value) rfl rfl own2.out (HIN2.out _ HB01AB.out) (by simp only[maxLen];omega) O0 HB01AB.out.size ?_
   intro vF cF hown hgr
   obtain⟨Ar,cr,rfl,hbr⟩:=DN hown
   have HOF:=U hown
   have HBF:Hid (Below u0.heap.size u0 cF):=U (Dg HB01AB.out hgr (fun r hr=>(own2.out.lt r hr).1) HB01AB.out.size)
   clear hown hgr hbr
   refine hK.out _ _ (HKS.out _ HBF.out) (fun hH01ABCL=> ?_)
   clear hK K hH01ABL
   try simp only[ap]
   refine tk 12 rfl ?_
   refine wpAnyH_done O2 ?_ _
   refine NoPanic.normal ?_
   clear hH01ABCL
   have HIR:Hid ((([]:List Value)++(#[.string rf,.int .u64 (ri:Nat),.int .i64 rn,.int .u64 (ra:Nat)]:Array Value).toList)++([]:List Value)=(Ft rs ⟨rf,ri,rn,ra⟩).flatMap rfL):=U (by
    rw[HINS.out];first | rfl|(simp[List.flatMap_append,rfL];done)|(simp only[List.flatMap_append,List.flatMap_cons,rfL,List.append_assoc];rfl))
   have HOT:Hid (cF.ownsRow w.heap.size 53 4 (.slice Ar (0+1+0) cr) (0+1) ((Ft rs ⟨rf,ri,rn,ra⟩).flatMap rfL)):=U (by
    have h:=Fv HOF.out (show w.heap.size<=u0.heap.size from Nat.le_trans HBW0.out.size HBU.out.size)
    rw[HIR.out] at h
    have e:0+1+0=0+1:=O0
    rw[e] at h ⊢
    exact h)
   have HBT:Hid (Below w.heap.size w cF):=U (HBW0.out.trans ((HBU.out.trans (HBF.out.mono HBU.out.size)).mono HBW0.out.size))
   go_wp2_with fail
   all_goals
    go_ret
    exact⟨_,rfl,HBT.out,HOT.out⟩):p:=h
theorem Q378.Y377 (h:p:=by
 have HIN:Hid (∀W:World,Below u0.heap.size u0 W->CIn W (.slice none 0 0) 0 4 ([]:List Value)):=U fun W hW=>CIn.nil W 4
 have HIN2:Hid (∀W:World,Below u0.heap.size u0 W->CIn W (.slice none 0 0) 0 4 ([]:List Value)):=U fun W hW=>CIn.nil W 4
 open Q579 in exact M578):p:=h
theorem PH (rs:List RF)(rf:ByteArray)(ri:Nat)(rn:Int)(ra:Nat)(n:Nat)(hn:n=rs.length)(v:Value)(base:Nat)(w:World)(hown:w.ownsRow base 53 4 v n (rs.flatMap rfL))(hle:n<=1000000000000) :
  Calls Tryz.prog 37 #[v,.agg #[.string rf,.int .u64 (ri:Nat),.int .i64 rn,.int .u64 (ra:Nat)]] w fun e w'=>∃v',e= .returned v'/\Below w.heap.size w w'/\w'.ownsRow w.heap.size 53 4 v' (n+1) ((Ft rs ⟨rf,ri,rn,ra⟩).flatMap rfL):=by
 obtain⟨i0,hi0,hz0,hz1,hz2⟩:=info_parts Tryz.infoRR
 have HSZ:=U (Od hi0 hz1)
 obtain⟨W0,hW0⟩:=Rm (w.alloc (.cells #[.string rf,.int .u64 (ri:Nat),.int .i64 rn,.int .u64 (ra:Nat)] 53))
 obtain⟨gb,hgb⟩:=Rm (w.heap.size)
 have hb0:Below w.heap.size w W0:=by rw[hW0];exact Rl
 have hx0:W0.heap[gb]?=some (.cells #[.string rf,.int .u64 (ri:Nat),.int .i64 rn,.int .u64 (ra:Nat)] 53 (0,0)):=by rw[hW0,hgb];exact heap_alloc_new _ _
 have HCX0:Hid (∀W:World,W.heap[gb]?=W0.heap[gb]?->W.cell? ⟨gb,0,none⟩=some (.string rf)/\W.cell? ⟨gb,1,none⟩=some (.int .u64 (ri:Nat))/\W.cell? ⟨gb,2,none⟩=some (.int .i64 rn)/\W.cell? ⟨gb,3,none⟩=some (.int .u64 (ra:Nat))):=U fun W h=>by
  rw[hx0] at h
  exact⟨by simp[World.cell?,h],by simp[World.cell?,h],by simp[World.cell?,h],by simp[World.cell?,h]⟩
 have HGL:Hid (gb<W0.heap.size):=U (by rw[hW0,hgb];simp)
 have HBW0:=U hb0
 have HN:=U hn
 have hown0:=Fh hown hb0
 clear hx0 hb0 hn
 have HIN0:=U (CIn.of_own hown0 (FC rs))
 replace hW0:=U hW0;replace hgb:=U hgb
 rcases hown0.2 with ⟨rfl,h0⟩|⟨b,cp,cur,rfl,-,-,q4,q5,-⟩
 ·subst h0
  clear hown hown0
  go_enter Tryz.func37,Tryz.ntmps37
  go_upto_region 1 with fail
  rw[<-hW0.out, <-hgb.out]
  go_wp2_with fail
  go_loopw [5] (fun v wr=>∃j:Nat,v= .int .i64 j/\j<=0/\Below W0.heap.size W0 wr/\∀i (h:i<rs.length),i<j->rs[i].at'<=ra) (fun v _=>0-(intOf v).toNat)
  case atStart=>exact⟨0,by go_num,Nat.zero_le _,Below.refl _ _,fun i h1 h2=>O0⟩
  case round=>
   obtain⟨j,rfl,hj,hb,hle2⟩:=hrel
   have HB1:=U hb;have HA:=U hle2
   have HBD0:=U (Da hb)
   clear hb hle2
   obtain⟨x0,x1,x2,x3⟩:=HCX0.out wr (HB1.out.block gb HGL.out)
   obtain rfl:j=0:=O0
   have HINS:Hid (Ft rs ⟨rf,ri,rn,ra⟩= [⟨rf,ri,rn,ra⟩]):=U (by rw[List.eq_nil_of_length_eq_zero HN.out.symm];rfl)
   go_wp2_with fail
   go_region
   generalize hwd:wr.drew=wd at HBD0 ⊢
   have HBD:=HBD0
   clear hwd
   clear x0 x1 x2 x3
   open Q378 in exact M377
 ·clear hown hown0
  simp only[maxLen] at q5
  have hc0:=q4
  go_enter Tryz.func37,Tryz.ntmps37
  go_upto_region 1 with fail
  rw[<-hW0.out, <-hgb.out]
  go_wp2_with fail
  go_loopw [5] (fun v wr=>∃j:Nat,v= .int .i64 j/\j<=n/\Below W0.heap.size W0 wr/\∀i (h:i<rs.length),i<j->rs[i].at'<=ra) (fun v _=>n-(intOf v).toNat)
  case atStart=>exact⟨0,by go_num,Nat.zero_le _,Below.refl _ _,fun i h1 h2=>O0⟩
  case round=>
   obtain⟨j,rfl,hj,hb,hle2⟩:=hrel
   have HB1:=U hb;have HA:=U hle2
   have HBD0:=U (Da hb)
   clear hb hle2
   obtain⟨x0,x1,x2,x3⟩:=HCX0.out wr (HB1.out.block gb HGL.out)
   by_cases hlt:j<n
   ·have hltz : (j : Int) < (n : Int) := O0
    obtain⟨b',off',f,id,m,at',e1,hr,hbl,y0,y1,y2,y3⟩:=GD (HIN0.out.later HB1.out) HN.out j hlt
    cases e1
    rw[Nat.zero_add] at y0 y1 y2 y3
    have HR:=U hr
    clear hr hbl
    by_cases hp:at'<=ra
    ·have hpz : (at' : Int) <= (ra : Int) := O0
     have HA2:Hid (∀i (h:i<rs.length),i<j+1->rs[i].at'<=ra):=U fun i h1 h2=>by
      by_cases e:i=j
      ·subst e
       have:=HR.out
       rw[List.getElem?_eq_getElem h1] at this
       rw[Option.some.inj this];exact hp
      ·exact HA.out i h1 O0
     go_wp2_with fail
     go_region
     generalize hwd:wr.drew=wd at HBD0 ⊢
     have HBD:=HBD0
     clear hwd
     clear x0 x1 x2 x3 y0 y1 y2 y3
     go_wp2_with fail
     go_roundw
     case rel=>exact⟨j+1,by go_num,O0,HBD.out,HA2.out⟩
     case measure=>(simp[intOf];try omega)
    ·have hpz : ¬ (at' : Int) <= (ra : Int) := O0
     have HINS : Hid (Ft rs ⟨rf, ri, rn, ra⟩ = rs.take j ++ ⟨rf, ri, rn, ra⟩ :: rs.drop j) := U (Xx _ rs j (by rw [<- HN.out]; exact hj) HA.out fun h => by
      have:=HR.out
      rw[List.getElem?_eq_getElem h] at this
      rw[Option.some.inj this];show ra<at';omega)
     go_wp2_with fail
     go_region
     generalize hwd:wr.drew=wd at HBD0 ⊢
     have HBD:=HBD0
     clear hwd
     clear x0 x1 x2 x3 y0 y1 y2 y3
     exact M1
   ·have hltz : ¬ (j : Int) < (n : Int) := O0
    have HINS:Hid (Ft rs ⟨rf,ri,rn,ra⟩=rs.take j++⟨rf,ri,rn,ra⟩::rs.drop j):=U (Xx _ rs j (by rw[<-HN.out];exact hj) HA.out fun h=>by have:=HN.out;omega)
    go_wp2_with fail
    go_region
    generalize hwd:wr.drew=wd at HBD0 ⊢
    have HBD:=HBD0
    clear hwd
    clear x0 x1 x2 x3
    exact M1
open Vt (VT Rep)
open Ev (EV Dj Db Dn zeroT)
open Cm (EvsIn)
open Cn (BT BB BtsIn Dy GU GY)
open Vf (Gu)
open Hi (TK HM XM XGood XAt FV Du DD Sj Oo bOk eA eB UZ UY Sq XL ab_in BIn Ui PU UU Pk Pl Ds FB)
attribute [local go_sem] Oper.semAt_some
variable {E Z : Nat -> Prop} {w w' : World} {xb : Nat} {x : XM}
def bT : BT:=⟨⟨#[119]⟩,5,[eA,eB]⟩
def hT : HM:=⟨⟨#[119]⟩,[bT],⟨[⟨1,⟨#[97]⟩,zeroT,0,false,5⟩],[],[],2,0⟩⟩
def rT : RF:=⟨⟨#[119]⟩,1,1,5⟩
theorem bT_valid : Dy bT.flow bT.at' bT.es=true:=by
 unfold Dy
 simp[bT,Cn.DH,UZ,UY]
 try decide
theorem bT_addM : Du (HM.new ⟨#[119]⟩) bT=(0,hT):=by
 rw[Sj (by unfold bOk;simp[bT,UZ,UY]) rfl rfl (by simp[bT,HM.at',HM.new,Oo,eA])]
 rfl
theorem Kx : DD XM.new bT=(0,⟨[hT],[bT]⟩):=by
 unfold DD
 rw[if_neg (by rw[bT_valid];decide),if_neg (by simp[XM.clock,XM.new,Hi.Fw])]
 have e:Hi.DI XM.new bT.flow=HM.new ⟨#[119]⟩:=rfl
 rw[e,bT_addM]
 rfl
theorem bT_few : ∀k (hk:k<bT.es.length),GY bT.es[k]=true:=fun k hk=>by
 rcases (by have:bT.es.length=2:=rfl;omega:k=0\/k=1) with rfl|rfl
 ·show GY eA = true
  unfold GY eA
  simp only[VT.few,zeroT,Vt.FX,Vt.PZ,Vt.Dz]
  decide
 ·show GY eB = true
  unfold GY eB
  simp only[VT.few,zeroT,Vt.FX,Vt.PZ,Vt.Dz]
  decide
theorem bT_bin : BIn bT := ⟨O1, fun i hi => by
 rcases (by have:bT.es.length=2:=rfl;omega:i=0\/i=1) with rfl|rfl<;>exact Sq⟩
theorem xT_good : XGood ⟨[hT],[bT]⟩ 2 1:=by
 have h:=Pl Pk bT bT_bin
 rw[Kx] at h
 exact h
theorem xT_refs : (XM.mk [hT] [bT]).flows.flatMap (refsOf false 5)= [rT]:=rfl
theorem JC (w:World):Calls Tryz.prog 9 #[] w fun r w'=>r= .returned (.bool true)/\Below w.heap.size w w':=by
 go_enter Tryz.func9,Tryz.ntmps9
 go_wp2_with fail
 refine(Ui w (fun _=>False) (fun _ h=>h.elim)).mono ?_
 rintro r w1 ⟨xb,Z,rfl,hb1,H,hZ⟩
 obtain⟨W2,hW2⟩:=Rm (w1.alloc (.cells XL 61))
 have hb12:Below w1.heap.size w1 W2:=by rw[hW2];exact Rl
 have hev:EvsIn (Ds Z W2) (some ⟨w1.heap.size,0,none⟩) 2 bT.es:=ab_in _ _ (by
  rw[FB (fun q=>by have:=H.zlt q;omega),hW2]
  exact heap_alloc_new w1 _)
 have HC:=U (PU (H.later hb12) Pk bT _ 2 hev bT_bin O1 O1 O1 O1 O1 (fun hv=>UU O1 bT_few hv))
 rw[show bT.es.length=2 from rfl,show bT.flow=⟨#[119]⟩ from rfl,show bT.at'=5 from rfl] at HC
 have HB1:=U hb1;have HB12:=U hb12;have HZ:=U hZ
 unfold XL at hW2
 clear hev hb12 hb1 H hZ
 replace hW2:=U hW2
 go_wp2_with fail
 rw[<-hW2.out]
 refine HC.out.mono ?_
 rintro r w3 ⟨rfl,hchg,-,Z3,H3,hZ3⟩
 rw[Kx] at H3
 rw[Kx]
 have HB3:Hid (Below w.heap.size w w3):=U (by
  have hb2:=HB1.out.trans (HB12.out.mono HB1.out.size)
  refine hb2.trans (hchg.below hb2.size fun c hc=> ?_)
  rcases HZ.out c hc with e|e
  ·exact e.elim
  ·exact e)
 have HR:=U (Oh H3 xT_good O1 O1 O1 (fun h hh=>by simp at hh;rw[hh];decide) 5 [rT] (by rw[xT_refs];exact Uv _ _ O1))
 clear H3 hchg hZ3 HC
 go_wp2_with fail
 refine HR.out.mono ?_
 rintro r w4 ⟨A,c,rfl,hb4,hin,-⟩
 obtain⟨-,-,A',c',e1,hle,hcm,hrd⟩:=hin
 obtain⟨rfl,-,rfl⟩:A=A'/\True/\c=c':=by injection e1 with a1 a2 a3;exact⟨a1,trivial,a3⟩
 obtain⟨b,off,rfl,hbl,hq⟩:=hrd O1
 have c0:w4.cell? ⟨b,off,none⟩=some (.string ⟨#[119]⟩):=hq 0 _ rfl
 have c1:w4.cell? ⟨b,off+1,none⟩=some (.int .u64 1):=hq 1 _ rfl
 have c2:w4.cell? ⟨b,off+2,none⟩=some (.int .i64 1):=hq 2 _ rfl
 have c3:w4.cell? ⟨b,off+3,none⟩=some (.int .u64 5):=hq 3 _ rfl
 have HB4:Hid (Below w.heap.size w w4):=U (HB3.out.trans (hb4.mono HB3.out.size))
 rw[show [rT].length=1 from rfl] at hle ⊢
 simp only[maxLen] at hcm
 clear hrd hq e1 HR hb4
 go_wp2_with fail
 go_ret
 exact⟨rfl,HB4.out⟩
open Hi (HB HAt Dr DL Fb DA TOk TkIn TkNew Sr Sv Fc)
attribute [local go_sem] Oper.semAt_some
open Hi (RIx IBox OS VK rhC RTk.open)
attribute [local go_sem] Oper.semAt_some
variable {w w' : World} {x : XM}
open Cn (Vj)
open Hi (Gw LIn Xw Gx Df tot)
attribute [local go_sem] Oper.semAt_some
variable {w w' w0 : World} {x : XM}
end Ta
end Go.Proofs.YtaahfiopdoinkaaGreat
