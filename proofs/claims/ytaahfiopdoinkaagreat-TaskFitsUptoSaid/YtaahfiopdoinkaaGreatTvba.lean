/- The reference's insertion. -/
import Derived.Test.YtaahfiopdoinkaaGreatTvaz
import Derived.Test.YtaahfiopdoinkaaGreatTvam
set_option maxRecDepth 100000
set_option maxHeartbeats 4000000
variable {p : Prop}
set_option linter.unusedVariables false
set_option linter.unusedSimpArgs false
open Go.RowKit
namespace Go.Proofs.YtaahfiopdoinkaaGreat
namespace Ta
open _root_.Go.Proofs.YtaahfiopdoinkaaGreat.Nm (Dl De)
open Vt (Da)
open Hi (CIn DC Fa Dq Dd Dh DM Fi)
open Ev (take_drop tk ap rd1 rd2 Dg)
open Cm (rowOf)
attribute [local go_sem] Oper.semAt_some
variable {w w' : World}
theorem Fx {w:World}{base base' k n:Nat}{T:TypeId}{v:Value}{xs:List Value}(h:w.ownsRow base T k v n xs)(hb:base'<=base):w.ownsRow base' T k v n xs:=by
 refine⟨h.1,?_⟩
 rcases h.2 with q|⟨r,cp,cur,q1,q2,q3⟩
 ·exact .inl q
 ·exact .inr ⟨r,cp,cur,q1,Nat.le_trans hb q2,q3⟩
theorem _root_.Go.Proofs.YtaahfiopdoinkaaGreat.Hi.CIn.front {w:World}{rs:List RF}{b cp n j:Nat}(h:CIn w (.slice (some ⟨b,0,none⟩) n cp) n 4 (rs.flatMap rfL))(hn:n=rs.length)(hj:j<=n)(hc:n<=cp):CIn w (.slice (some ⟨b,0,none⟩) j cp) j 4 ((rs.take j).flatMap rfL):=by
 obtain⟨h1,h2,A,c,e,h4,h5,h6⟩:=h
 cases e
 refine⟨by rw[Pm,List.length_take];omega,Gu _,_,_,rfl,Nat.le_trans hj hc,h5,fun h0=> ?_⟩
 obtain⟨b',off,e,q2,q3⟩:=h6 O0
 cases e
 refine⟨b,0,rfl,q2,fun p x hx=>q3 p x ?_⟩
 have hp:=(List.getElem?_eq_some_iff.1 hx).1
 have e2:rs.flatMap rfL=(rs.take j).flatMap rfL++(rs.drop j).flatMap rfL:=by rw[<-List.flatMap_append,List.take_append_drop]
 rw[e2,List.getElem?_append_left hp];exact hx
theorem _root_.Go.Proofs.YtaahfiopdoinkaaGreat.Hi.CIn.back {w:World}{rs:List RF}{b cp n j:Nat}(h:CIn w (.slice (some ⟨b,0,none⟩) n cp) n 4 (rs.flatMap rfL))(hn:n=rs.length)(hj:j<=n)(hc:n<=cp):CIn w (.slice (if cp=j then some ⟨b,0,none⟩ else some ⟨b,j*4,none⟩) (n-j) (cp-j)) (n-j) 4 ((rs.drop j).flatMap rfL):=by
 obtain⟨h1,h2,A,c,e,h4,h5,h6⟩:=h
 cases e
 refine⟨by rw[Pm,List.length_drop];omega,Gu _,_,_,rfl,O0,O0,fun h0=> ?_⟩
 obtain⟨b',off,e,q2,q3⟩:=h6 O0
 cases e
 rw[if_neg O0]
 refine⟨b,j*4,rfl,q2,fun p x hx=> ?_⟩
 have e2:rs.flatMap rfL=(rs.take j).flatMap rfL++(rs.drop j).flatMap rfL:=by rw[<-List.flatMap_append,List.take_append_drop]
 have hl:((rs.take j).flatMap rfL).length=j*4:=by rw[Pm,List.length_take];omega
 have:=q3 (j*4+p) x (by rw[e2,List.getElem?_append_right O0,hl,show j*4+p-j*4=p by omega];exact hx)
 rwa [Nat.zero_add] at this
theorem M374 (h:p:=by
 go_upto_region 4 with fail
 obtain⟨u0,hu0⟩:∃u,u=wd.drew:=⟨_,rfl⟩
 have HBU:Hid (Below W0.heap.size W0 u0):=U (by rw[hu0];exact Da HBD.out)
 have HBu:Hid (Below u0.heap.size u0 u0):=U (Below.refl _ _)
 have HGU:Hid (gb<u0.heap.size):=U (Nat.lt_of_lt_of_le HGL.out HBU.out.size)
 have HKS:Hid (∀W:World,Below u0.heap.size u0 W->(fun W:World=>(W.cell? ⟨gb,0,none⟩=some (.string rf)/\W.cell? ⟨gb,1,none⟩=some (.int .u64 (ri:Nat))/\W.cell? ⟨gb,2,none⟩=some (.int .i64 rn)/\W.cell? ⟨gb,3,none⟩=some (.int .u64 (ra:Nat)))) W):=U fun W hW=>HCX0.out W ((hW.block gb HGU.out).trans (HBU.out.block gb HGL.out))
 have HCX:Hid (∀W:World,Below u0.heap.size u0 W->(W.cell? ⟨gb,0,none⟩=some (.string rf)/\W.cell? ⟨gb,1,none⟩=some (.int .u64 (ri:Nat))/\W.cell? ⟨gb,2,none⟩=some (.int .i64 rn)/\W.cell? ⟨gb,3,none⟩=some (.int .u64 (ra:Nat)))):=HKS
 have HONE:Hid (∀x∈(#[.string rf,.int .u64 (ri:Nat),.int .i64 rn,.int .u64 (ra:Nat)]:Array Value).toList,x.oneCell'=true):=U (SQ ⟨rf,ri,rn,ra⟩)
 exact Y374):p:=h
theorem M155 (h:p:=by
 rw[<-hu0];exact HKS.out _ (Below.refl _ _)):p:=h
theorem M572 (h:p:=by
 refine wp_region_noPanic ?_
 refine wp_region_held_drew (S:=(fun W:World=>(W.cell? ⟨gb,0,none⟩=some (.string rf)/\W.cell? ⟨gb,1,none⟩=some (.int .u64 (ri:Nat))/\W.cell? ⟨gb,2,none⟩=some (.int .i64 rn)/\W.cell? ⟨gb,3,none⟩=some (.int .u64 (ra:Nat))))) O2 ?_ (fun hHeld=> ?_)
 ·exact M155
 rw[<-hu0] at hHeld
 rw[<-hu0]
 replace hu0:=U hu0
 refine tk 1 rfl ?_
 refine tk 2 rfl ?_
 refine tk 3 rfl ?_
 refine tk 8 rfl ?_
 refine tk 9 rfl ?_
 refine tk 10 rfl ?_
 exact Y572):p:=h
theorem M321 (h:p:=by
 go_simp
 obtain⟨zw0,hc0⟩:∃u,u=u0.alloc (.cells #[] 53):=⟨_,rfl⟩
 rw[<-hc0]
 obtain⟨ia,hia⟩:∃i,i=u0.heap.size:=⟨_,rfl⟩
 rw[<-hia]
 have hbz:Below u0.heap.size u0 zw0:=by rw[hc0];exact Ru
 have HB0:Hid (Below u0.heap.size u0 zw0):=U (HBu.out.trans (hbz.mono HBu.out.size))
 have own0_0:Hid (zw0.ownsRow u0.heap.size 53 4 (.slice (some ⟨ia,0,none⟩) 0 0) 0 []):=U (by rw[hc0,hia];exact World.ownsRow_lit u0 #[] 0 HBu.out.size (Nat.zero_le _) O3)
 clear hbz
 replace hc0:=U hc0
 replace hia:=U hia
 exact Y321):p:=h
theorem M13 (h:p:=by
 refine rd2 4 6 rfl rfl (fun K hK=> ?_) fun K hK=> ?_
 ·refine Dd zw0 rfl _ _ 51 53 rfl i0 _ 4 40 Tryz.underlying51 HSZ.out hi0 hz0 hz1 hz2 rfl O1 u0.heap.size (.slice (some ⟨ia, 0, none⟩) 0 0) (.slice (some ⟨b, 0, none⟩) j cp) 0 j [] ((rs.take j).flatMap rfL) rfl rfl own0_0.out (HIN.out _ HB0.out) (by simp only [maxLen]; omega) O0 HB0.out.size ?_
  intro v1 zw0A hown hgr
  have HB0A:Hid (Below u0.heap.size u0 zw0A):=U (Dh HB0.out hgr (fun r hr=>(own0_0.out.lt r hr).1) HB0.out.size)
  rw[Nat.zero_add,List.nil_append] at hown
  have own1_0A:=U hown
  clear hown hgr
  refine hK.out _ _ (HKS.out _ HB0A.out) (fun hH0AL=> ?_)
  clear hK K hH0L
  try simp only[ap]
  refine rd1 6 rfl fun K hK=> ?_
  go_simp
  obtain⟨zw01A,hc01A⟩:∃u,u=zw0A.alloc (.cells #[.string rf,.int .u64 (ri:Nat),.int .i64 rn,.int .u64 (ra:Nat)] 53):=⟨_,rfl⟩
  rw[<-hc01A]
  obtain⟨ib,hib⟩:∃i,i=zw0A.heap.size:=⟨_,rfl⟩
  rw[<-hib]
  have hbz:Below zw0A.heap.size zw0A zw01A:=by rw[hc01A];exact Ru
  have HB01A:Hid (Below u0.heap.size u0 zw01A):=U (HB0A.out.trans (hbz.mono HB0A.out.size))
  have one_01A:Hid (CIn zw01A (.slice (some ⟨ib,0,none⟩) 1 1) 1 4 #[.string rf,.int .u64 (ri:Nat),.int .i64 rn,.int .u64 (ra:Nat)].toList):=U (by rw[hc01A,hib];exact CIn.new zw0A _ _ rfl HONE.out)
  have own1_01A:=U (Fi own1_0A.out hbz)
  clear hbz
  replace hc01A:=U hc01A
  replace hib:=U hib
  refine hK.out _ _ (HKS.out _ HB01A.out) (fun hH01AL=> ?_)
  clear hK K hH0AL
  try simp only[ap]
  refine rd1 7 rfl fun K hK=> ?_
  refine Dd zw01A rfl _ _ 51 53 rfl i0 _ 4 40 Tryz.underlying51 HSZ.out hi0 hz0 hz1 hz2 rfl O1 u0.heap.size v1 (.slice (some ⟨ib,0,none⟩) 1 1) j 1 ((rs.take j).flatMap rfL) #[.string rf,.int .u64 (ri:Nat),.int .i64 rn,.int .u64 (ra:Nat)].toList rfl rfl own1_01A.out one_01A.out (by simp only[maxLen];omega) O0 HB01A.out.size ?_
  intro v2 zw01AB hown hgr
  have HB01AB:Hid (Below u0.heap.size u0 zw01AB):=U (Dh HB01A.out hgr (fun r hr=>(own1_01A.out.lt r hr).1) HB01A.out.size)
  have own2:=U hown
  clear hown hgr
  refine hK.out _ _ (HKS.out _ HB01AB.out) (fun hH01ABL=> ?_)
  clear hK K hH01AL
  try simp only[ap]
  refine rd1 11 rfl fun K hK=> ?_
  refine Dd zw01AB rfl _ _ 51 53 rfl i0 _ 4 40 Tryz.underlying51 HSZ.out hi0 hz0 hz1 hz2 rfl O1 u0.heap.size v2 (.slice (if cp=j then some ⟨b,0,none⟩ else some ⟨b,j*4,none⟩) (n-j) (cp-j)) (j+1) (n-j) (((rs.take j).flatMap rfL)++ #[.string rf,.int .u64 (ri:Nat),.int .i64 rn,.int .u64 (ra:Nat)].toList) ((rs.drop j).flatMap rfL) rfl rfl own2.out (HIN2.out _ HB01AB.out) (by simp only[maxLen];omega) O0 HB01AB.out.size ?_
  intro vF cF hown hgr
  obtain⟨Ar,cr,rfl,hbr⟩:=DM hown
  have HOF:=U hown
  have HBF:Hid (Below u0.heap.size u0 cF):=U (Dh HB01AB.out hgr (fun r hr=>(own2.out.lt r hr).1) HB01AB.out.size)
  clear hown hgr hbr
  refine hK.out _ _ (HKS.out _ HBF.out) (fun hH01ABCL=> ?_)
  clear hK K hH01ABL
  try simp only[ap]
  refine tk 12 rfl ?_
  refine wpAnyH_done O2 ?_ _
  refine NoPanic.normal ?_
  clear hH01ABCL
  have HIR:Hid ((((rs.take j).flatMap rfL)++(#[.string rf,.int .u64 (ri:Nat),.int .i64 rn,.int .u64 (ra:Nat)]:Array Value).toList)++((rs.drop j).flatMap rfL)=(Fw rs ⟨rf,ri,rn,ra⟩).flatMap rfL):=U (by
   rw[HINS.out];first | rfl|(simp[List.flatMap_append,rfL];done)|(simp only[List.flatMap_append,List.flatMap_cons,rfL,List.append_assoc];rfl))
  have HOT:Hid (cF.ownsRow w.heap.size 53 4 (.slice Ar (j+1+(n-j)) cr) (n+1) ((Fw rs ⟨rf,ri,rn,ra⟩).flatMap rfL)):=U (by
   have h:=Fx HOF.out (show w.heap.size<=u0.heap.size from Nat.le_trans HBW0.out.size HBU.out.size)
   rw[HIR.out] at h
   have e:j+1+(n-j)=n+1:=O0
   rw[e] at h ⊢
   exact h)
  have HBT:Hid (Below w.heap.size w cF):=U (HBW0.out.trans ((HBU.out.trans (HBF.out.mono HBU.out.size)).mono HBW0.out.size))
  go_wp2_with fail
  all_goals
   go_ret
   exact⟨_,rfl,HBT.out,HOT.out⟩
 ·go_simp
  obtain⟨zw01,hc01⟩:∃u,u=zw0.alloc (.cells #[.string rf,.int .u64 (ri:Nat),.int .i64 rn,.int .u64 (ra:Nat)] 53):=⟨_,rfl⟩
  rw[<-hc01]
  obtain⟨ib,hib⟩:∃i,i=zw0.heap.size:=⟨_,rfl⟩
  rw[<-hib]
  have hbz:Below zw0.heap.size zw0 zw01:=by rw[hc01];exact Ru
  have HB01:Hid (Below u0.heap.size u0 zw01):=U (HB0.out.trans (hbz.mono HB0.out.size))
  have one_01:Hid (CIn zw01 (.slice (some ⟨ib,0,none⟩) 1 1) 1 4 #[.string rf,.int .u64 (ri:Nat),.int .i64 rn,.int .u64 (ra:Nat)].toList):=U (by rw[hc01,hib];exact CIn.new zw0 _ _ rfl HONE.out)
  have HNE:Hid (ib≠ia):=U (by have q:=(own0_0.out.lt ia rfl).2;omega)
  have own0_01:=U (Fi own0_0.out hbz)
  clear hbz
  replace hc01:=U hc01
  replace hib:=U hib
  refine hK.out _ _ (HKS.out _ HB01.out) (fun hH01L=> ?_)
  clear hK K hH0L
  try simp only[ap]
  refine rd1 4 rfl fun K hK=> ?_
  refine Dd zw01 rfl _ _ 51 53 rfl i0 _ 4 40 Tryz.underlying51 HSZ.out hi0 hz0 hz1 hz2 rfl O1 u0.heap.size (.slice (some ⟨ia,0,none⟩) 0 0) (.slice (some ⟨b,0,none⟩) j cp) 0 j [] ((rs.take j).flatMap rfL) rfl rfl own0_01.out (HIN.out _ HB01.out) (by simp only[maxLen];omega) O0 HB01.out.size ?_
  intro v1 zw01A hown hgr
  have HB01A:Hid (Below u0.heap.size u0 zw01A):=U (Dh HB01.out hgr (fun r hr=>(own0_01.out.lt r hr).1) HB01.out.size)
  rw[Nat.zero_add,List.nil_append] at hown
  have own1_01A:=U hown
  have one_01A:=U (CIn.grown one_01.out hgr (fun e=>HNE.out (Option.some.inj e)))
  clear hown hgr
  refine hK.out _ _ (HKS.out _ HB01A.out) (fun hH01AL=> ?_)
  clear hK K hH01L
  try simp only[ap]
  refine rd1 7 rfl fun K hK=> ?_
  refine Dd zw01A rfl _ _ 51 53 rfl i0 _ 4 40 Tryz.underlying51 HSZ.out hi0 hz0 hz1 hz2 rfl O1 u0.heap.size v1 (.slice (some ⟨ib,0,none⟩) 1 1) j 1 ((rs.take j).flatMap rfL) #[.string rf,.int .u64 (ri:Nat),.int .i64 rn,.int .u64 (ra:Nat)].toList rfl rfl own1_01A.out one_01A.out (by simp only[maxLen];omega) O0 HB01A.out.size ?_
  intro v2 zw01AB hown hgr
  have HB01AB:Hid (Below u0.heap.size u0 zw01AB):=U (Dh HB01A.out hgr (fun r hr=>(own1_01A.out.lt r hr).1) HB01A.out.size)
  have own2:=U hown
  clear hown hgr
  refine hK.out _ _ (HKS.out _ HB01AB.out) (fun hH01ABL=> ?_)
  clear hK K hH01AL
  try simp only[ap]
  refine rd1 11 rfl fun K hK=> ?_
  refine Dd zw01AB rfl _ _ 51 53 rfl i0 _ 4 40 Tryz.underlying51 HSZ.out hi0 hz0 hz1 hz2 rfl O1 u0.heap.size v2 (.slice (if cp=j then some ⟨b,0,none⟩ else some ⟨b,j*4,none⟩) (n-j) (cp-j)) (j+1) (n-j) (((rs.take j).flatMap rfL)++ #[.string rf,.int .u64 (ri:Nat),.int .i64 rn,.int .u64 (ra:Nat)].toList) ((rs.drop j).flatMap rfL) rfl rfl own2.out (HIN2.out _ HB01AB.out) (by simp only[maxLen];omega) O0 HB01AB.out.size ?_
  intro vF cF hown hgr
  obtain⟨Ar,cr,rfl,hbr⟩:=DM hown
  have HOF:=U hown
  have HBF:Hid (Below u0.heap.size u0 cF):=U (Dh HB01AB.out hgr (fun r hr=>(own2.out.lt r hr).1) HB01AB.out.size)
  clear hown hgr hbr
  refine hK.out _ _ (HKS.out _ HBF.out) (fun hH01ABCL=> ?_)
  clear hK K hH01ABL
  try simp only[ap]
  refine tk 12 rfl ?_
  refine wpAnyH_done O2 ?_ _
  refine NoPanic.normal ?_
  clear hH01ABCL
  have HIR:Hid ((((rs.take j).flatMap rfL)++(#[.string rf,.int .u64 (ri:Nat),.int .i64 rn,.int .u64 (ra:Nat)]:Array Value).toList)++((rs.drop j).flatMap rfL)=(Fw rs ⟨rf,ri,rn,ra⟩).flatMap rfL):=U (by
   rw[HINS.out];first | rfl|(simp[List.flatMap_append,rfL];done)|(simp only[List.flatMap_append,List.flatMap_cons,rfL,List.append_assoc];rfl))
  have HOT:Hid (cF.ownsRow w.heap.size 53 4 (.slice Ar (j+1+(n-j)) cr) (n+1) ((Fw rs ⟨rf,ri,rn,ra⟩).flatMap rfL)):=U (by
   have h:=Fx HOF.out (show w.heap.size<=u0.heap.size from Nat.le_trans HBW0.out.size HBU.out.size)
   rw[HIR.out] at h
   have e:j+1+(n-j)=n+1:=O0
   rw[e] at h ⊢
   exact h)
  have HBT:Hid (Below w.heap.size w cF):=U (HBW0.out.trans ((HBU.out.trans (HBF.out.mono HBU.out.size)).mono HBW0.out.size))
  go_wp2_with fail
  all_goals
   go_ret
   exact⟨_,rfl,HBT.out,HOT.out⟩):p:=h
theorem Q324.Y321 (h:p:=by
 refine hK.out _ _ (HKS.out _ HB0.out) (fun hH0=> ?_)
 clear hK K hHeld
 try simp only[ap]
 refine rd2 4 5 rfl rfl (fun K hK=> ?_) fun K hK=> ?_
 ·refine Dd zw0 rfl _ _ 51 53 rfl i0 _ 4 40 Tryz.underlying51 HSZ.out hi0 hz0 hz1 hz2 rfl O1 u0.heap.size (.slice (some ⟨ia, 0, none⟩) 0 0) (.slice (some ⟨b, 0, none⟩) j cp) 0 j [] ((rs.take j).flatMap rfL) rfl rfl own0_0.out (HIN.out _ HB0.out) (by simp only [maxLen]; omega) O0 HB0.out.size ?_
  intro v1 zw0A hown hgr
  have HB0A:Hid (Below u0.heap.size u0 zw0A):=U (Dh HB0.out hgr (fun r hr=>(own0_0.out.lt r hr).1) HB0.out.size)
  rw[Nat.zero_add,List.nil_append] at hown
  have own1_0A:=U hown
  clear hown hgr
  refine hK.out _ _ (HKS.out _ HB0A.out) (fun hH0A=> ?_)
  clear hK K hH0
  try simp only[ap]
  refine rd1 5 rfl fun K hK=> ?_
  obtain⟨cx0,cx1,cx2,cx3⟩:=HCX.out zw0A HB0A.out
  go_simp
  refine hK.out _ _ (HKS.out _ HB0A.out) (fun hH0AL=> ?_)
  clear hK K hH0A
  try simp only[ap]
  clear cx0 cx1 cx2 cx3
  refine rd1 6 rfl fun K hK=> ?_
  go_simp
  obtain⟨zw01A,hc01A⟩:∃u,u=zw0A.alloc (.cells #[.string rf,.int .u64 (ri:Nat),.int .i64 rn,.int .u64 (ra:Nat)] 53):=⟨_,rfl⟩
  rw[<-hc01A]
  obtain⟨ib,hib⟩:∃i,i=zw0A.heap.size:=⟨_,rfl⟩
  rw[<-hib]
  have hbz:Below zw0A.heap.size zw0A zw01A:=by rw[hc01A];exact Ru
  have HB01A:Hid (Below u0.heap.size u0 zw01A):=U (HB0A.out.trans (hbz.mono HB0A.out.size))
  have one_01A:Hid (CIn zw01A (.slice (some ⟨ib,0,none⟩) 1 1) 1 4 #[.string rf,.int .u64 (ri:Nat),.int .i64 rn,.int .u64 (ra:Nat)].toList):=U (by rw[hc01A,hib];exact CIn.new zw0A _ _ rfl HONE.out)
  have own1_01A:=U (Fi own1_0A.out hbz)
  clear hbz
  replace hc01A:=U hc01A
  replace hib:=U hib
  refine hK.out _ _ (HKS.out _ HB01A.out) (fun hH01AL=> ?_)
  clear hK K hH0AL
  try simp only[ap]
  refine rd1 7 rfl fun K hK=> ?_
  refine Dd zw01A rfl _ _ 51 53 rfl i0 _ 4 40 Tryz.underlying51 HSZ.out hi0 hz0 hz1 hz2 rfl O1 u0.heap.size v1 (.slice (some ⟨ib,0,none⟩) 1 1) j 1 ((rs.take j).flatMap rfL) #[.string rf,.int .u64 (ri:Nat),.int .i64 rn,.int .u64 (ra:Nat)].toList rfl rfl own1_01A.out one_01A.out (by simp only[maxLen];omega) O0 HB01A.out.size ?_
  intro v2 zw01AB hown hgr
  have HB01AB:Hid (Below u0.heap.size u0 zw01AB):=U (Dh HB01A.out hgr (fun r hr=>(own1_01A.out.lt r hr).1) HB01A.out.size)
  have own2:=U hown
  clear hown hgr
  refine hK.out _ _ (HKS.out _ HB01AB.out) (fun hH01ABL=> ?_)
  clear hK K hH01AL
  try simp only[ap]
  refine rd1 11 rfl fun K hK=> ?_
  refine Dd zw01AB rfl _ _ 51 53 rfl i0 _ 4 40 Tryz.underlying51 HSZ.out hi0 hz0 hz1 hz2 rfl O1 u0.heap.size v2 (.slice (if cp=j then some ⟨b,0,none⟩ else some ⟨b,j*4,none⟩) (n-j) (cp-j)) (j+1) (n-j) (((rs.take j).flatMap rfL)++ #[.string rf,.int .u64 (ri:Nat),.int .i64 rn,.int .u64 (ra:Nat)].toList) ((rs.drop j).flatMap rfL) rfl rfl own2.out (HIN2.out _ HB01AB.out) (by simp only[maxLen];omega) O0 HB01AB.out.size ?_
  intro vF cF hown hgr
  obtain⟨Ar,cr,rfl,hbr⟩:=DM hown
  have HOF:=U hown
  have HBF:Hid (Below u0.heap.size u0 cF):=U (Dh HB01AB.out hgr (fun r hr=>(own2.out.lt r hr).1) HB01AB.out.size)
  clear hown hgr hbr
  refine hK.out _ _ (HKS.out _ HBF.out) (fun hH01ABCL=> ?_)
  clear hK K hH01ABL
  try simp only[ap]
  refine tk 12 rfl ?_
  refine wpAnyH_done O2 ?_ _
  refine NoPanic.normal ?_
  clear hH01ABCL
  have HIR:Hid ((((rs.take j).flatMap rfL)++(#[.string rf,.int .u64 (ri:Nat),.int .i64 rn,.int .u64 (ra:Nat)]:Array Value).toList)++((rs.drop j).flatMap rfL)=(Fw rs ⟨rf,ri,rn,ra⟩).flatMap rfL):=U (by
   rw[HINS.out];first | rfl|(simp[List.flatMap_append,rfL];done)|(simp only[List.flatMap_append,List.flatMap_cons,rfL,List.append_assoc];rfl))
  have HOT:Hid (cF.ownsRow w.heap.size 53 4 (.slice Ar (j+1+(n-j)) cr) (n+1) ((Fw rs ⟨rf,ri,rn,ra⟩).flatMap rfL)):=U (by
   have h:=Fx HOF.out (show w.heap.size<=u0.heap.size from Nat.le_trans HBW0.out.size HBU.out.size)
   rw[HIR.out] at h
   have e:j+1+(n-j)=n+1:=O0
   rw[e] at h ⊢
   exact h)
  have HBT:Hid (Below w.heap.size w cF):=U (HBW0.out.trans ((HBU.out.trans (HBF.out.mono HBU.out.size)).mono HBW0.out.size))
  go_wp2_with fail
  all_goals
   go_ret
   exact⟨_,rfl,HBT.out,HOT.out⟩
 ·obtain ⟨cx0, cx1, cx2, cx3⟩ := HCX.out zw0 HB0.out
  go_simp
  refine hK.out _ _ (HKS.out _ HB0.out) (fun hH0L=> ?_)
  clear hK K hH0
  try simp only[ap]
  clear cx0 cx1 cx2 cx3
  exact M13):p:=h
theorem Q325.Y321 (h:p:=by
 refine hK.out _ _ (HKS.out _ HB0.out) (fun hH0L=> ?_)
 clear hK K hHL
 try simp only[ap]
 exact M13):p:=h
theorem Q574.Y572 (h:p:=by
 refine rd2 0 5 rfl rfl (fun K hK=> ?_) fun K hK=> ?_
 ·open Q324 in exact M321
 ·obtain ⟨cx0, cx1, cx2, cx3⟩ := HCX.out u0 HBu.out
  go_simp
  refine hK.out _ _ (HKS.out _ HBu.out) (fun hHL=> ?_)
  clear hK K hHeld
  try simp only[ap]
  clear cx0 cx1 cx2 cx3
  refine rd2 0 6 rfl rfl (fun K hK=> ?_) fun K hK=> ?_
  ·open Q325 in exact M321
  ·go_simp
   obtain⟨zw1,hc1⟩:∃u,u=u0.alloc (.cells #[.string rf,.int .u64 (ri:Nat),.int .i64 rn,.int .u64 (ra:Nat)] 53):=⟨_,rfl⟩
   rw[<-hc1]
   obtain⟨ib,hib⟩:∃i,i=u0.heap.size:=⟨_,rfl⟩
   rw[<-hib]
   have hbz:Below u0.heap.size u0 zw1:=by rw[hc1];exact Ru
   have HB1:Hid (Below u0.heap.size u0 zw1):=U (HBu.out.trans (hbz.mono HBu.out.size))
   have one_1:Hid (CIn zw1 (.slice (some ⟨ib,0,none⟩) 1 1) 1 4 #[.string rf,.int .u64 (ri:Nat),.int .i64 rn,.int .u64 (ra:Nat)].toList):=U (by rw[hc1,hib];exact CIn.new u0 _ _ rfl HONE.out)
   clear hbz
   replace hc1:=U hc1
   replace hib:=U hib
   refine hK.out _ _ (HKS.out _ HB1.out) (fun hH1L=> ?_)
   clear hK K hHL
   try simp only[ap]
   refine rd1 0 rfl fun K hK=> ?_
   go_simp
   obtain⟨zw01,hc01⟩:∃u,u=zw1.alloc (.cells #[] 53):=⟨_,rfl⟩
   rw[<-hc01]
   obtain⟨ia,hia⟩:∃i,i=zw1.heap.size:=⟨_,rfl⟩
   rw[<-hia]
   have hbz:Below zw1.heap.size zw1 zw01:=by rw[hc01];exact Ru
   have HB01:Hid (Below u0.heap.size u0 zw01):=U (HB1.out.trans (hbz.mono HB1.out.size))
   have own0_01:Hid (zw01.ownsRow u0.heap.size 53 4 (.slice (some ⟨ia,0,none⟩) 0 0) 0 []):=U (by rw[hc01,hia];exact World.ownsRow_lit zw1 #[] 0 HB1.out.size (Nat.zero_le _) O3)
   have HNE:Hid (ib≠ia):=U (by have q:ib<zw1.heap.size:=one_1.out.lt;omega)
   have one_01:=U (CIn.later one_1.out hbz)
   clear hbz
   replace hc01:=U hc01
   replace hia:=U hia
   refine hK.out _ _ (HKS.out _ HB01.out) (fun hH01L=> ?_)
   clear hK K hH1L
   try simp only[ap]
   refine rd1 4 rfl fun K hK=> ?_
   refine Dd zw01 rfl _ _ 51 53 rfl i0 _ 4 40 Tryz.underlying51 HSZ.out hi0 hz0 hz1 hz2 rfl O1 u0.heap.size (.slice (some ⟨ia,0,none⟩) 0 0) (.slice (some ⟨b,0,none⟩) j cp) 0 j [] ((rs.take j).flatMap rfL) rfl rfl own0_01.out (HIN.out _ HB01.out) (by simp only[maxLen];omega) O0 HB01.out.size ?_
   intro v1 zw01A hown hgr
   have HB01A:Hid (Below u0.heap.size u0 zw01A):=U (Dh HB01.out hgr (fun r hr=>(own0_01.out.lt r hr).1) HB01.out.size)
   rw[Nat.zero_add,List.nil_append] at hown
   have own1_01A:=U hown
   have one_01A:=U (CIn.grown one_01.out hgr (fun e=>HNE.out (Option.some.inj e)))
   clear hown hgr
   refine hK.out _ _ (HKS.out _ HB01A.out) (fun hH01AL=> ?_)
   clear hK K hH01L
   try simp only[ap]
   refine rd1 7 rfl fun K hK=> ?_
   refine Dd zw01A rfl _ _ 51 53 rfl i0 _ 4 40 Tryz.underlying51 HSZ.out hi0 hz0 hz1 hz2 rfl O1 u0.heap.size v1 (.slice (some ⟨ib,0,none⟩) 1 1) j 1 ((rs.take j).flatMap rfL) #[.string rf,.int .u64 (ri:Nat),.int .i64 rn,.int .u64 (ra:Nat)].toList rfl rfl own1_01A.out one_01A.out (by simp only[maxLen];omega) O0 HB01A.out.size ?_
   intro v2 zw01AB hown hgr
   have HB01AB:Hid (Below u0.heap.size u0 zw01AB):=U (Dh HB01A.out hgr (fun r hr=>(own1_01A.out.lt r hr).1) HB01A.out.size)
   have own2:=U hown
   clear hown hgr
   refine hK.out _ _ (HKS.out _ HB01AB.out) (fun hH01ABL=> ?_)
   clear hK K hH01AL
   try simp only[ap]
   refine rd1 11 rfl fun K hK=> ?_
   refine Dd zw01AB rfl _ _ 51 53 rfl i0 _ 4 40 Tryz.underlying51 HSZ.out hi0 hz0 hz1 hz2 rfl O1 u0.heap.size v2 (.slice (if cp=j then some ⟨b,0,none⟩ else some ⟨b,j*4,none⟩) (n-j) (cp-j)) (j+1) (n-j) (((rs.take j).flatMap rfL)++ #[.string rf,.int .u64 (ri:Nat),.int .i64 rn,.int .u64 (ra:Nat)].toList) ((rs.drop j).flatMap rfL) rfl rfl own2.out (HIN2.out _ HB01AB.out) (by simp only[maxLen];omega) O0 HB01AB.out.size ?_
   intro vF cF hown hgr
   obtain⟨Ar,cr,rfl,hbr⟩:=DM hown
   have HOF:=U hown
   have HBF:Hid (Below u0.heap.size u0 cF):=U (Dh HB01AB.out hgr (fun r hr=>(own2.out.lt r hr).1) HB01AB.out.size)
   clear hown hgr hbr
   refine hK.out _ _ (HKS.out _ HBF.out) (fun hH01ABCL=> ?_)
   clear hK K hH01ABL
   try simp only[ap]
   refine tk 12 rfl ?_
   refine wpAnyH_done O2 ?_ _
   refine NoPanic.normal ?_
   clear hH01ABCL
   have HIR:Hid ((((rs.take j).flatMap rfL)++(#[.string rf,.int .u64 (ri:Nat),.int .i64 rn,.int .u64 (ra:Nat)]:Array Value).toList)++((rs.drop j).flatMap rfL)=(Fw rs ⟨rf,ri,rn,ra⟩).flatMap rfL):=U (by
    rw[HINS.out];first | rfl|(simp[List.flatMap_append,rfL];done)|(simp only[List.flatMap_append,List.flatMap_cons,rfL,List.append_assoc];rfl))
   have HOT:Hid (cF.ownsRow w.heap.size 53 4 (.slice Ar (j+1+(n-j)) cr) (n+1) ((Fw rs ⟨rf,ri,rn,ra⟩).flatMap rfL)):=U (by
    have h:=Fx HOF.out (show w.heap.size<=u0.heap.size from Nat.le_trans HBW0.out.size HBU.out.size)
    rw[HIR.out] at h
    have e:j+1+(n-j)=n+1:=O0
    rw[e] at h ⊢
    exact h)
   have HBT:Hid (Below w.heap.size w cF):=U (HBW0.out.trans ((HBU.out.trans (HBF.out.mono HBU.out.size)).mono HBW0.out.size))
   go_wp2_with fail
   all_goals
    go_ret
    exact⟨_,rfl,HBT.out,HOT.out⟩):p:=h
theorem Q376.Y374 (h:p:=by
 have HIN:Hid (∀W:World,Below u0.heap.size u0 W->CIn W (.slice (some ⟨b,0,none⟩) j cp) j 4 ((rs.take j).flatMap rfL)):=U fun W hW=>(HIN0.out.later (HBU.out.trans (hW.mono HBU.out.size))).front HN.out hj hc0
 have HIN2:Hid (∀W:World,Below u0.heap.size u0 W->CIn W (.slice (if cp=j then some ⟨b,0,none⟩ else some ⟨b,j*4,none⟩) (n-j) (cp-j)) (n-j) 4 ((rs.drop j).flatMap rfL)):=U fun W hW=>(HIN0.out.later (HBU.out.trans (hW.mono HBU.out.size))).back HN.out hj hc0
 open Q574 in exact M572):p:=h
theorem M1 (h:p:=by
 have hjcp:j<=cp:=O0
 have hjcz:(j:Int)<=(cp:Int):=O0
 have hj0:(0:Int)<=(j:Int):=O0
 have hjnz:(j:Int)<=(n:Int):=O0
 have hncz:(n:Int)<=(cp:Int):=O0
 open Q376 in exact M374):p:=h
theorem M16 (h:p:=by
 refine rd2 4 6 rfl rfl (fun K hK=> ?_) fun K hK=> ?_
 ·refine Dd zw0 rfl _ _ 51 53 rfl i0 _ 4 40 Tryz.underlying51 HSZ.out hi0 hz0 hz1 hz2 rfl O1 u0.heap.size (.slice (some ⟨ia, 0, none⟩) 0 0) (.slice none 0 0) 0 0 [] ([] : List Value) rfl rfl own0_0.out (HIN.out _ HB0.out) (by simp only [maxLen]; omega) O0 HB0.out.size ?_
  intro v1 zw0A hown hgr
  have HB0A:Hid (Below u0.heap.size u0 zw0A):=U (Dh HB0.out hgr (fun r hr=>(own0_0.out.lt r hr).1) HB0.out.size)
  rw[Nat.zero_add,List.nil_append] at hown
  have own1_0A:=U hown
  clear hown hgr
  refine hK.out _ _ (HKS.out _ HB0A.out) (fun hH0AL=> ?_)
  clear hK K hH0L
  try simp only[ap]
  refine rd1 6 rfl fun K hK=> ?_
  go_simp
  obtain⟨zw01A,hc01A⟩:∃u,u=zw0A.alloc (.cells #[.string rf,.int .u64 (ri:Nat),.int .i64 rn,.int .u64 (ra:Nat)] 53):=⟨_,rfl⟩
  rw[<-hc01A]
  obtain⟨ib,hib⟩:∃i,i=zw0A.heap.size:=⟨_,rfl⟩
  rw[<-hib]
  have hbz:Below zw0A.heap.size zw0A zw01A:=by rw[hc01A];exact Ru
  have HB01A:Hid (Below u0.heap.size u0 zw01A):=U (HB0A.out.trans (hbz.mono HB0A.out.size))
  have one_01A:Hid (CIn zw01A (.slice (some ⟨ib,0,none⟩) 1 1) 1 4 #[.string rf,.int .u64 (ri:Nat),.int .i64 rn,.int .u64 (ra:Nat)].toList):=U (by rw[hc01A,hib];exact CIn.new zw0A _ _ rfl HONE.out)
  have own1_01A:=U (Fi own1_0A.out hbz)
  clear hbz
  replace hc01A:=U hc01A
  replace hib:=U hib
  refine hK.out _ _ (HKS.out _ HB01A.out) (fun hH01AL=> ?_)
  clear hK K hH0AL
  try simp only[ap]
  refine rd1 7 rfl fun K hK=> ?_
  refine Dd zw01A rfl _ _ 51 53 rfl i0 _ 4 40 Tryz.underlying51 HSZ.out hi0 hz0 hz1 hz2 rfl O1 u0.heap.size v1 (.slice (some ⟨ib,0,none⟩) 1 1) 0 1 ([]:List Value) #[.string rf,.int .u64 (ri:Nat),.int .i64 rn,.int .u64 (ra:Nat)].toList rfl rfl own1_01A.out one_01A.out (by simp only[maxLen];omega) O0 HB01A.out.size ?_
  intro v2 zw01AB hown hgr
  have HB01AB:Hid (Below u0.heap.size u0 zw01AB):=U (Dh HB01A.out hgr (fun r hr=>(own1_01A.out.lt r hr).1) HB01A.out.size)
  have own2:=U hown
  clear hown hgr
  refine hK.out _ _ (HKS.out _ HB01AB.out) (fun hH01ABL=> ?_)
  clear hK K hH01AL
  try simp only[ap]
  refine rd1 11 rfl fun K hK=> ?_
  refine Dd zw01AB rfl _ _ 51 53 rfl i0 _ 4 40 Tryz.underlying51 HSZ.out hi0 hz0 hz1 hz2 rfl O1 u0.heap.size v2 (.slice none 0 0) (0+1) 0 (([]:List Value)++ #[.string rf,.int .u64 (ri:Nat),.int .i64 rn,.int .u64 (ra:Nat)].toList) ([]:List Value) rfl rfl own2.out (HIN2.out _ HB01AB.out) (by simp only[maxLen];omega) O0 HB01AB.out.size ?_
  intro vF cF hown hgr
  obtain⟨Ar,cr,rfl,hbr⟩:=DM hown
  have HOF:=U hown
  have HBF:Hid (Below u0.heap.size u0 cF):=U (Dh HB01AB.out hgr (fun r hr=>(own2.out.lt r hr).1) HB01AB.out.size)
  clear hown hgr hbr
  refine hK.out _ _ (HKS.out _ HBF.out) (fun hH01ABCL=> ?_)
  clear hK K hH01ABL
  try simp only[ap]
  refine tk 12 rfl ?_
  refine wpAnyH_done O2 ?_ _
  refine NoPanic.normal ?_
  clear hH01ABCL
  have HIR:Hid ((([]:List Value)++(#[.string rf,.int .u64 (ri:Nat),.int .i64 rn,.int .u64 (ra:Nat)]:Array Value).toList)++([]:List Value)=(Fw rs ⟨rf,ri,rn,ra⟩).flatMap rfL):=U (by
   rw[HINS.out];first | rfl|(simp[List.flatMap_append,rfL];done)|(simp only[List.flatMap_append,List.flatMap_cons,rfL,List.append_assoc];rfl))
  have HOT:Hid (cF.ownsRow w.heap.size 53 4 (.slice Ar (0+1+0) cr) (0+1) ((Fw rs ⟨rf,ri,rn,ra⟩).flatMap rfL)):=U (by
   have h:=Fx HOF.out (show w.heap.size<=u0.heap.size from Nat.le_trans HBW0.out.size HBU.out.size)
   rw[HIR.out] at h
   have e:0+1+0=0+1:=O0
   rw[e] at h ⊢
   exact h)
  have HBT:Hid (Below w.heap.size w cF):=U (HBW0.out.trans ((HBU.out.trans (HBF.out.mono HBU.out.size)).mono HBW0.out.size))
  go_wp2_with fail
  all_goals
   go_ret
   exact⟨_,rfl,HBT.out,HOT.out⟩
 ·go_simp
  obtain⟨zw01,hc01⟩:∃u,u=zw0.alloc (.cells #[.string rf,.int .u64 (ri:Nat),.int .i64 rn,.int .u64 (ra:Nat)] 53):=⟨_,rfl⟩
  rw[<-hc01]
  obtain⟨ib,hib⟩:∃i,i=zw0.heap.size:=⟨_,rfl⟩
  rw[<-hib]
  have hbz:Below zw0.heap.size zw0 zw01:=by rw[hc01];exact Ru
  have HB01:Hid (Below u0.heap.size u0 zw01):=U (HB0.out.trans (hbz.mono HB0.out.size))
  have one_01:Hid (CIn zw01 (.slice (some ⟨ib,0,none⟩) 1 1) 1 4 #[.string rf,.int .u64 (ri:Nat),.int .i64 rn,.int .u64 (ra:Nat)].toList):=U (by rw[hc01,hib];exact CIn.new zw0 _ _ rfl HONE.out)
  have HNE:Hid (ib≠ia):=U (by have q:=(own0_0.out.lt ia rfl).2;omega)
  have own0_01:=U (Fi own0_0.out hbz)
  clear hbz
  replace hc01:=U hc01
  replace hib:=U hib
  refine hK.out _ _ (HKS.out _ HB01.out) (fun hH01L=> ?_)
  clear hK K hH0L
  try simp only[ap]
  refine rd1 4 rfl fun K hK=> ?_
  refine Dd zw01 rfl _ _ 51 53 rfl i0 _ 4 40 Tryz.underlying51 HSZ.out hi0 hz0 hz1 hz2 rfl O1 u0.heap.size (.slice (some ⟨ia,0,none⟩) 0 0) (.slice none 0 0) 0 0 [] ([]:List Value) rfl rfl own0_01.out (HIN.out _ HB01.out) (by simp only[maxLen];omega) O0 HB01.out.size ?_
  intro v1 zw01A hown hgr
  have HB01A:Hid (Below u0.heap.size u0 zw01A):=U (Dh HB01.out hgr (fun r hr=>(own0_01.out.lt r hr).1) HB01.out.size)
  rw[Nat.zero_add,List.nil_append] at hown
  have own1_01A:=U hown
  have one_01A:=U (CIn.grown one_01.out hgr (fun e=>HNE.out (Option.some.inj e)))
  clear hown hgr
  refine hK.out _ _ (HKS.out _ HB01A.out) (fun hH01AL=> ?_)
  clear hK K hH01L
  try simp only[ap]
  refine rd1 7 rfl fun K hK=> ?_
  refine Dd zw01A rfl _ _ 51 53 rfl i0 _ 4 40 Tryz.underlying51 HSZ.out hi0 hz0 hz1 hz2 rfl O1 u0.heap.size v1 (.slice (some ⟨ib,0,none⟩) 1 1) 0 1 ([]:List Value) #[.string rf,.int .u64 (ri:Nat),.int .i64 rn,.int .u64 (ra:Nat)].toList rfl rfl own1_01A.out one_01A.out (by simp only[maxLen];omega) O0 HB01A.out.size ?_
  intro v2 zw01AB hown hgr
  have HB01AB:Hid (Below u0.heap.size u0 zw01AB):=U (Dh HB01A.out hgr (fun r hr=>(own1_01A.out.lt r hr).1) HB01A.out.size)
  have own2:=U hown
  clear hown hgr
  refine hK.out _ _ (HKS.out _ HB01AB.out) (fun hH01ABL=> ?_)
  clear hK K hH01AL
  try simp only[ap]
  refine rd1 11 rfl fun K hK=> ?_
  refine Dd zw01AB rfl _ _ 51 53 rfl i0 _ 4 40 Tryz.underlying51 HSZ.out hi0 hz0 hz1 hz2 rfl O1 u0.heap.size v2 (.slice none 0 0) (0+1) 0 (([]:List Value)++ #[.string rf,.int .u64 (ri:Nat),.int .i64 rn,.int .u64 (ra:Nat)].toList) ([]:List Value) rfl rfl own2.out (HIN2.out _ HB01AB.out) (by simp only[maxLen];omega) O0 HB01AB.out.size ?_
  intro vF cF hown hgr
  obtain⟨Ar,cr,rfl,hbr⟩:=DM hown
  have HOF:=U hown
  have HBF:Hid (Below u0.heap.size u0 cF):=U (Dh HB01AB.out hgr (fun r hr=>(own2.out.lt r hr).1) HB01AB.out.size)
  clear hown hgr hbr
  refine hK.out _ _ (HKS.out _ HBF.out) (fun hH01ABCL=> ?_)
  clear hK K hH01ABL
  try simp only[ap]
  refine tk 12 rfl ?_
  refine wpAnyH_done O2 ?_ _
  refine NoPanic.normal ?_
  clear hH01ABCL
  have HIR:Hid ((([]:List Value)++(#[.string rf,.int .u64 (ri:Nat),.int .i64 rn,.int .u64 (ra:Nat)]:Array Value).toList)++([]:List Value)=(Fw rs ⟨rf,ri,rn,ra⟩).flatMap rfL):=U (by
   rw[HINS.out];first | rfl|(simp[List.flatMap_append,rfL];done)|(simp only[List.flatMap_append,List.flatMap_cons,rfL,List.append_assoc];rfl))
  have HOT:Hid (cF.ownsRow w.heap.size 53 4 (.slice Ar (0+1+0) cr) (0+1) ((Fw rs ⟨rf,ri,rn,ra⟩).flatMap rfL)):=U (by
   have h:=Fx HOF.out (show w.heap.size<=u0.heap.size from Nat.le_trans HBW0.out.size HBU.out.size)
   rw[HIR.out] at h
   have e:0+1+0=0+1:=O0
   rw[e] at h ⊢
   exact h)
  have HBT:Hid (Below w.heap.size w cF):=U (HBW0.out.trans ((HBU.out.trans (HBF.out.mono HBU.out.size)).mono HBW0.out.size))
  go_wp2_with fail
  all_goals
   go_ret
   exact⟨_,rfl,HBT.out,HOT.out⟩):p:=h
theorem Q322.Y321 (h:p:=by
 refine hK.out _ _ (HKS.out _ HB0.out) (fun hH0=> ?_)
 clear hK K hHeld
 try simp only[ap]
 refine rd2 4 5 rfl rfl (fun K hK=> ?_) fun K hK=> ?_
 ·refine Dd zw0 rfl _ _ 51 53 rfl i0 _ 4 40 Tryz.underlying51 HSZ.out hi0 hz0 hz1 hz2 rfl O1 u0.heap.size (.slice (some ⟨ia, 0, none⟩) 0 0) (.slice none 0 0) 0 0 [] ([] : List Value) rfl rfl own0_0.out (HIN.out _ HB0.out) (by simp only [maxLen]; omega) O0 HB0.out.size ?_
  intro v1 zw0A hown hgr
  have HB0A:Hid (Below u0.heap.size u0 zw0A):=U (Dh HB0.out hgr (fun r hr=>(own0_0.out.lt r hr).1) HB0.out.size)
  rw[Nat.zero_add,List.nil_append] at hown
  have own1_0A:=U hown
  clear hown hgr
  refine hK.out _ _ (HKS.out _ HB0A.out) (fun hH0A=> ?_)
  clear hK K hH0
  try simp only[ap]
  refine rd1 5 rfl fun K hK=> ?_
  obtain⟨cx0,cx1,cx2,cx3⟩:=HCX.out zw0A HB0A.out
  go_simp
  refine hK.out _ _ (HKS.out _ HB0A.out) (fun hH0AL=> ?_)
  clear hK K hH0A
  try simp only[ap]
  clear cx0 cx1 cx2 cx3
  refine rd1 6 rfl fun K hK=> ?_
  go_simp
  obtain⟨zw01A,hc01A⟩:∃u,u=zw0A.alloc (.cells #[.string rf,.int .u64 (ri:Nat),.int .i64 rn,.int .u64 (ra:Nat)] 53):=⟨_,rfl⟩
  rw[<-hc01A]
  obtain⟨ib,hib⟩:∃i,i=zw0A.heap.size:=⟨_,rfl⟩
  rw[<-hib]
  have hbz:Below zw0A.heap.size zw0A zw01A:=by rw[hc01A];exact Ru
  have HB01A:Hid (Below u0.heap.size u0 zw01A):=U (HB0A.out.trans (hbz.mono HB0A.out.size))
  have one_01A:Hid (CIn zw01A (.slice (some ⟨ib,0,none⟩) 1 1) 1 4 #[.string rf,.int .u64 (ri:Nat),.int .i64 rn,.int .u64 (ra:Nat)].toList):=U (by rw[hc01A,hib];exact CIn.new zw0A _ _ rfl HONE.out)
  have own1_01A:=U (Fi own1_0A.out hbz)
  clear hbz
  replace hc01A:=U hc01A
  replace hib:=U hib
  refine hK.out _ _ (HKS.out _ HB01A.out) (fun hH01AL=> ?_)
  clear hK K hH0AL
  try simp only[ap]
  refine rd1 7 rfl fun K hK=> ?_
  refine Dd zw01A rfl _ _ 51 53 rfl i0 _ 4 40 Tryz.underlying51 HSZ.out hi0 hz0 hz1 hz2 rfl O1 u0.heap.size v1 (.slice (some ⟨ib,0,none⟩) 1 1) 0 1 ([]:List Value) #[.string rf,.int .u64 (ri:Nat),.int .i64 rn,.int .u64 (ra:Nat)].toList rfl rfl own1_01A.out one_01A.out (by simp only[maxLen];omega) O0 HB01A.out.size ?_
  intro v2 zw01AB hown hgr
  have HB01AB:Hid (Below u0.heap.size u0 zw01AB):=U (Dh HB01A.out hgr (fun r hr=>(own1_01A.out.lt r hr).1) HB01A.out.size)
  have own2:=U hown
  clear hown hgr
  refine hK.out _ _ (HKS.out _ HB01AB.out) (fun hH01ABL=> ?_)
  clear hK K hH01AL
  try simp only[ap]
  refine rd1 11 rfl fun K hK=> ?_
  refine Dd zw01AB rfl _ _ 51 53 rfl i0 _ 4 40 Tryz.underlying51 HSZ.out hi0 hz0 hz1 hz2 rfl O1 u0.heap.size v2 (.slice none 0 0) (0+1) 0 (([]:List Value)++ #[.string rf,.int .u64 (ri:Nat),.int .i64 rn,.int .u64 (ra:Nat)].toList) ([]:List Value) rfl rfl own2.out (HIN2.out _ HB01AB.out) (by simp only[maxLen];omega) O0 HB01AB.out.size ?_
  intro vF cF hown hgr
  obtain⟨Ar,cr,rfl,hbr⟩:=DM hown
  have HOF:=U hown
  have HBF:Hid (Below u0.heap.size u0 cF):=U (Dh HB01AB.out hgr (fun r hr=>(own2.out.lt r hr).1) HB01AB.out.size)
  clear hown hgr hbr
  refine hK.out _ _ (HKS.out _ HBF.out) (fun hH01ABCL=> ?_)
  clear hK K hH01ABL
  try simp only[ap]
  refine tk 12 rfl ?_
  refine wpAnyH_done O2 ?_ _
  refine NoPanic.normal ?_
  clear hH01ABCL
  have HIR:Hid ((([]:List Value)++(#[.string rf,.int .u64 (ri:Nat),.int .i64 rn,.int .u64 (ra:Nat)]:Array Value).toList)++([]:List Value)=(Fw rs ⟨rf,ri,rn,ra⟩).flatMap rfL):=U (by
   rw[HINS.out];first | rfl|(simp[List.flatMap_append,rfL];done)|(simp only[List.flatMap_append,List.flatMap_cons,rfL,List.append_assoc];rfl))
  have HOT:Hid (cF.ownsRow w.heap.size 53 4 (.slice Ar (0+1+0) cr) (0+1) ((Fw rs ⟨rf,ri,rn,ra⟩).flatMap rfL)):=U (by
   have h:=Fx HOF.out (show w.heap.size<=u0.heap.size from Nat.le_trans HBW0.out.size HBU.out.size)
   rw[HIR.out] at h
   have e:0+1+0=0+1:=O0
   rw[e] at h ⊢
   exact h)
  have HBT:Hid (Below w.heap.size w cF):=U (HBW0.out.trans ((HBU.out.trans (HBF.out.mono HBU.out.size)).mono HBW0.out.size))
  go_wp2_with fail
  all_goals
   go_ret
   exact⟨_,rfl,HBT.out,HOT.out⟩
 ·obtain ⟨cx0, cx1, cx2, cx3⟩ := HCX.out zw0 HB0.out
  go_simp
  refine hK.out _ _ (HKS.out _ HB0.out) (fun hH0L=> ?_)
  clear hK K hH0
  try simp only[ap]
  clear cx0 cx1 cx2 cx3
  exact M16):p:=h
theorem Q323.Y321 (h:p:=by
 refine hK.out _ _ (HKS.out _ HB0.out) (fun hH0L=> ?_)
 clear hK K hHL
 try simp only[ap]
 exact M16):p:=h
theorem Q573.Y572 (h:p:=by
 refine rd2 0 5 rfl rfl (fun K hK=> ?_) fun K hK=> ?_
 ·open Q322 in exact M321
 ·obtain ⟨cx0, cx1, cx2, cx3⟩ := HCX.out u0 HBu.out
  go_simp
  refine hK.out _ _ (HKS.out _ HBu.out) (fun hHL=> ?_)
  clear hK K hHeld
  try simp only[ap]
  clear cx0 cx1 cx2 cx3
  refine rd2 0 6 rfl rfl (fun K hK=> ?_) fun K hK=> ?_
  ·open Q323 in exact M321
  ·go_simp
   obtain⟨zw1,hc1⟩:∃u,u=u0.alloc (.cells #[.string rf,.int .u64 (ri:Nat),.int .i64 rn,.int .u64 (ra:Nat)] 53):=⟨_,rfl⟩
   rw[<-hc1]
   obtain⟨ib,hib⟩:∃i,i=u0.heap.size:=⟨_,rfl⟩
   rw[<-hib]
   have hbz:Below u0.heap.size u0 zw1:=by rw[hc1];exact Ru
   have HB1:Hid (Below u0.heap.size u0 zw1):=U (HBu.out.trans (hbz.mono HBu.out.size))
   have one_1:Hid (CIn zw1 (.slice (some ⟨ib,0,none⟩) 1 1) 1 4 #[.string rf,.int .u64 (ri:Nat),.int .i64 rn,.int .u64 (ra:Nat)].toList):=U (by rw[hc1,hib];exact CIn.new u0 _ _ rfl HONE.out)
   clear hbz
   replace hc1:=U hc1
   replace hib:=U hib
   refine hK.out _ _ (HKS.out _ HB1.out) (fun hH1L=> ?_)
   clear hK K hHL
   try simp only[ap]
   refine rd1 0 rfl fun K hK=> ?_
   go_simp
   obtain⟨zw01,hc01⟩:∃u,u=zw1.alloc (.cells #[] 53):=⟨_,rfl⟩
   rw[<-hc01]
   obtain⟨ia,hia⟩:∃i,i=zw1.heap.size:=⟨_,rfl⟩
   rw[<-hia]
   have hbz:Below zw1.heap.size zw1 zw01:=by rw[hc01];exact Ru
   have HB01:Hid (Below u0.heap.size u0 zw01):=U (HB1.out.trans (hbz.mono HB1.out.size))
   have own0_01:Hid (zw01.ownsRow u0.heap.size 53 4 (.slice (some ⟨ia,0,none⟩) 0 0) 0 []):=U (by rw[hc01,hia];exact World.ownsRow_lit zw1 #[] 0 HB1.out.size (Nat.zero_le _) O3)
   have HNE:Hid (ib≠ia):=U (by have q:ib<zw1.heap.size:=one_1.out.lt;omega)
   have one_01:=U (CIn.later one_1.out hbz)
   clear hbz
   replace hc01:=U hc01
   replace hia:=U hia
   refine hK.out _ _ (HKS.out _ HB01.out) (fun hH01L=> ?_)
   clear hK K hH1L
   try simp only[ap]
   refine rd1 4 rfl fun K hK=> ?_
   refine Dd zw01 rfl _ _ 51 53 rfl i0 _ 4 40 Tryz.underlying51 HSZ.out hi0 hz0 hz1 hz2 rfl O1 u0.heap.size (.slice (some ⟨ia,0,none⟩) 0 0) (.slice none 0 0) 0 0 [] ([]:List Value) rfl rfl own0_01.out (HIN.out _ HB01.out) (by simp only[maxLen];omega) O0 HB01.out.size ?_
   intro v1 zw01A hown hgr
   have HB01A:Hid (Below u0.heap.size u0 zw01A):=U (Dh HB01.out hgr (fun r hr=>(own0_01.out.lt r hr).1) HB01.out.size)
   rw[Nat.zero_add,List.nil_append] at hown
   have own1_01A:=U hown
   have one_01A:=U (CIn.grown one_01.out hgr (fun e=>HNE.out (Option.some.inj e)))
   clear hown hgr
   refine hK.out _ _ (HKS.out _ HB01A.out) (fun hH01AL=> ?_)
   clear hK K hH01L
   try simp only[ap]
   refine rd1 7 rfl fun K hK=> ?_
   refine Dd zw01A rfl _ _ 51 53 rfl i0 _ 4 40 Tryz.underlying51 HSZ.out hi0 hz0 hz1 hz2 rfl O1 u0.heap.size v1 (.slice (some ⟨ib,0,none⟩) 1 1) 0 1 ([]:List Value) #[.string rf,.int .u64 (ri:Nat),.int .i64 rn,.int .u64 (ra:Nat)].toList rfl rfl own1_01A.out one_01A.out (by simp only[maxLen];omega) O0 HB01A.out.size ?_
   intro v2 zw01AB hown hgr
   have HB01AB:Hid (Below u0.heap.size u0 zw01AB):=U (Dh HB01A.out hgr (fun r hr=>(own1_01A.out.lt r hr).1) HB01A.out.size)
   have own2:=U hown
   clear hown hgr
   refine hK.out _ _ (HKS.out _ HB01AB.out) (fun hH01ABL=> ?_)
   clear hK K hH01AL
   try simp only[ap]
   refine rd1 11 rfl fun K hK=> ?_
   refine Dd zw01AB rfl _ _ 51 53 rfl i0 _ 4 40 Tryz.underlying51 HSZ.out hi0 hz0 hz1 hz2 rfl O1 u0.heap.size v2 (.slice none 0 0) (0+1) 0 (([]:List Value)++ #[.string rf,.int .u64 (ri:Nat),.int .i64 rn,.int .u64 (ra:Nat)].toList) ([]:List Value) rfl rfl own2.out (HIN2.out _ HB01AB.out) (by simp only[maxLen];omega) O0 HB01AB.out.size ?_
   intro vF cF hown hgr
   obtain⟨Ar,cr,rfl,hbr⟩:=DM hown
   have HOF:=U hown
   have HBF:Hid (Below u0.heap.size u0 cF):=U (Dh HB01AB.out hgr (fun r hr=>(own2.out.lt r hr).1) HB01AB.out.size)
   clear hown hgr hbr
   refine hK.out _ _ (HKS.out _ HBF.out) (fun hH01ABCL=> ?_)
   clear hK K hH01ABL
   try simp only[ap]
   refine tk 12 rfl ?_
   refine wpAnyH_done O2 ?_ _
   refine NoPanic.normal ?_
   clear hH01ABCL
   have HIR:Hid ((([]:List Value)++(#[.string rf,.int .u64 (ri:Nat),.int .i64 rn,.int .u64 (ra:Nat)]:Array Value).toList)++([]:List Value)=(Fw rs ⟨rf,ri,rn,ra⟩).flatMap rfL):=U (by
    rw[HINS.out];first | rfl|(simp[List.flatMap_append,rfL];done)|(simp only[List.flatMap_append,List.flatMap_cons,rfL,List.append_assoc];rfl))
   have HOT:Hid (cF.ownsRow w.heap.size 53 4 (.slice Ar (0+1+0) cr) (0+1) ((Fw rs ⟨rf,ri,rn,ra⟩).flatMap rfL)):=U (by
    have h:=Fx HOF.out (show w.heap.size<=u0.heap.size from Nat.le_trans HBW0.out.size HBU.out.size)
    rw[HIR.out] at h
    have e:0+1+0=0+1:=O0
    rw[e] at h ⊢
    exact h)
   have HBT:Hid (Below w.heap.size w cF):=U (HBW0.out.trans ((HBU.out.trans (HBF.out.mono HBU.out.size)).mono HBW0.out.size))
   go_wp2_with fail
   all_goals
    go_ret
    exact⟨_,rfl,HBT.out,HOT.out⟩):p:=h
theorem Q375.Y374 (h:p:=by
 have HIN:Hid (∀W:World,Below u0.heap.size u0 W->CIn W (.slice none 0 0) 0 4 ([]:List Value)):=U fun W hW=>CIn.nil W 4
 have HIN2:Hid (∀W:World,Below u0.heap.size u0 W->CIn W (.slice none 0 0) 0 4 ([]:List Value)):=U fun W hW=>CIn.nil W 4
 open Q573 in exact M572):p:=h
theorem PH (rs:List RF)(rf:ByteArray)(ri:Nat)(rn:Int)(ra:Nat)(n:Nat)(hn:n=rs.length)(v:Value)(base:Nat)(w:World)(hown:w.ownsRow base 53 4 v n (rs.flatMap rfL))(hle:n<=1000000000000) :
  Calls Tryz.prog 37 #[v,.agg #[.string rf,.int .u64 (ri:Nat),.int .i64 rn,.int .u64 (ra:Nat)]] w fun e w'=>∃v',e= .returned v'/\Below w.heap.size w w'/\w'.ownsRow w.heap.size 53 4 v' (n+1) ((Fw rs ⟨rf,ri,rn,ra⟩).flatMap rfL):=by
 obtain⟨i0,hi0,hz0,hz1,hz2⟩:=info_parts Tryz.infoRR
 have HSZ:=U (ON hi0 hz1)
 obtain⟨W0,hW0⟩:=Rv (w.alloc (.cells #[.string rf,.int .u64 (ri:Nat),.int .i64 rn,.int .u64 (ra:Nat)] 53))
 obtain⟨gb,hgb⟩:=Rv (w.heap.size)
 have hb0:Below w.heap.size w W0:=by rw[hW0];exact Ru
 have hx0:W0.heap[gb]?=some (.cells #[.string rf,.int .u64 (ri:Nat),.int .i64 rn,.int .u64 (ra:Nat)] 53 (0,0)):=by rw[hW0,hgb];exact heap_alloc_new _ _
 have HCX0:Hid (∀W:World,W.heap[gb]?=W0.heap[gb]?->W.cell? ⟨gb,0,none⟩=some (.string rf)/\W.cell? ⟨gb,1,none⟩=some (.int .u64 (ri:Nat))/\W.cell? ⟨gb,2,none⟩=some (.int .i64 rn)/\W.cell? ⟨gb,3,none⟩=some (.int .u64 (ra:Nat))):=U fun W h=>by
  rw[hx0] at h
  exact⟨by simp[World.cell?,h],by simp[World.cell?,h],by simp[World.cell?,h],by simp[World.cell?,h]⟩
 have HGL:Hid (gb<W0.heap.size):=U (by rw[hW0,hgb];simp)
 have HBW0:=U hb0
 have HN:=U hn
 have hown0:=Gx hown hb0
 clear hx0 hb0 hn
 have HIN0:=U (CIn.of_own hown0 (Gu rs))
 replace hW0:=U hW0;replace hgb:=U hgb
 rcases hown0.2 with ⟨rfl,h0⟩|⟨b,cp,cur,rfl,-,-,q4,q5,-⟩
 ·subst h0
  clear hown hown0
  go_enter Tryz.func37,Tryz.ntmps37
  go_upto_region 1 with fail
  rw[<-hW0.out, <-hgb.out]
  go_wp2_with fail
  go_loopw [5] (fun v wr=>∃j:Nat,v= .int .i64 j/\j<=0/\Below W0.heap.size W0 wr/\∀i (h:i<rs.length),i<j->rs[i].at'<=ra) (fun v _=>0-(intOf v).toNat)
  case atStart=>exact⟨0,by go_num,Nat.zero_le _,Below.refl _ _,fun i h1 h2=>O0⟩
  case round=>
   obtain⟨j,rfl,hj,hb,hle2⟩:=hrel
   have HB1:=U hb;have HA:=U hle2
   have HBD0:=U (Da hb)
   clear hb hle2
   obtain⟨x0,x1,x2,x3⟩:=HCX0.out wr (HB1.out.block gb HGL.out)
   obtain rfl:j=0:=O0
   have HINS:Hid (Fw rs ⟨rf,ri,rn,ra⟩= [⟨rf,ri,rn,ra⟩]):=U (by rw[List.eq_nil_of_length_eq_zero HN.out.symm];rfl)
   go_wp2_with fail
   go_region
   generalize hwd:wr.drew=wd at HBD0 ⊢
   have HBD:=HBD0
   clear hwd
   clear x0 x1 x2 x3
   open Q375 in exact M374
 ·clear hown hown0
  simp only[maxLen] at q5
  have hc0:=q4
  go_enter Tryz.func37,Tryz.ntmps37
  go_upto_region 1 with fail
  rw[<-hW0.out, <-hgb.out]
  go_wp2_with fail
  go_loopw [5] (fun v wr=>∃j:Nat,v= .int .i64 j/\j<=n/\Below W0.heap.size W0 wr/\∀i (h:i<rs.length),i<j->rs[i].at'<=ra) (fun v _=>n-(intOf v).toNat)
  case atStart=>exact⟨0,by go_num,Nat.zero_le _,Below.refl _ _,fun i h1 h2=>O0⟩
  case round=>
   obtain⟨j,rfl,hj,hb,hle2⟩:=hrel
   have HB1:=U hb;have HA:=U hle2
   have HBD0:=U (Da hb)
   clear hb hle2
   obtain⟨x0,x1,x2,x3⟩:=HCX0.out wr (HB1.out.block gb HGL.out)
   by_cases hlt:j<n
   ·have hltz : (j : Int) < (n : Int) := O0
    obtain⟨b',off',f,id,m,at',e1,hr,hbl,y0,y1,y2,y3⟩:=Od (HIN0.out.later HB1.out) HN.out j hlt
    cases e1
    rw[Nat.zero_add] at y0 y1 y2 y3
    have HR:=U hr
    clear hr hbl
    by_cases hp:at'<=ra
    ·have hpz : (at' : Int) <= (ra : Int) := O0
     have HA2:Hid (∀i (h:i<rs.length),i<j+1->rs[i].at'<=ra):=U fun i h1 h2=>by
      by_cases e:i=j
      ·subst e
       have:=HR.out
       rw[List.getElem?_eq_getElem h1] at this
       rw[Option.some.inj this];exact hp
      ·exact HA.out i h1 O0
     go_wp2_with fail
     go_region
     generalize hwd:wr.drew=wd at HBD0 ⊢
     have HBD:=HBD0
     clear hwd
     clear x0 x1 x2 x3 y0 y1 y2 y3
     go_wp2_with fail
     go_roundw
     case rel=>exact⟨j+1,by go_num,O0,HBD.out,HA2.out⟩
     case measure=>(simp[intOf];try omega)
    ·have hpz : ¬ (at' : Int) <= (ra : Int) := O0
     have HINS : Hid (Fw rs ⟨rf, ri, rn, ra⟩ = rs.take j ++ ⟨rf, ri, rn, ra⟩ :: rs.drop j) := U (Xq _ rs j (by rw [<- HN.out]; exact hj) HA.out fun h => by
      have:=HR.out
      rw[List.getElem?_eq_getElem h] at this
      rw[Option.some.inj this];show ra<at';omega)
     go_wp2_with fail
     go_region
     generalize hwd:wr.drew=wd at HBD0 ⊢
     have HBD:=HBD0
     clear hwd
     clear x0 x1 x2 x3 y0 y1 y2 y3
     exact M1
   ·have hltz : ¬ (j : Int) < (n : Int) := O0
    have HINS:Hid (Fw rs ⟨rf,ri,rn,ra⟩=rs.take j++⟨rf,ri,rn,ra⟩::rs.drop j):=U (Xq _ rs j (by rw[<-HN.out];exact hj) HA.out fun h=>by have:=HN.out;omega)
    go_wp2_with fail
    go_region
    generalize hwd:wr.drew=wd at HBD0 ⊢
    have HBD:=HBD0
    clear hwd
    clear x0 x1 x2 x3
    exact M1
open Hi (HM TK XM RIx IBox rhC RH RTk.open TkIn TOk DA)
attribute [local go_sem] Oper.semAt_some
def o1 (x:XM)(fl:Bool)(now i:Nat):List RF:=DN ((x.flows.take i).flatMap (refsOf fl now))
def o2 (x:XM)(fl:Bool)(now i:Nat)(f:ByteArray)(ts:List TK)(k:Nat):List RF:=DN ((x.flows.take i).flatMap (refsOf fl now)++Gi fl now f (ts.take k))
theorem o1_0 (x:XM)(fl:Bool)(now:Nat):o1 x fl now 0= []:=rfl
theorem o1_end (x:XM)(fl:Bool)(now:Nat):o1 x fl now x.flows.length=DP fl now x:=by unfold o1 DP;rw[List.take_length]
theorem o2_0 (x:XM)(fl:Bool)(now i:Nat)(f:ByteArray)(ts:List TK):o2 x fl now i f ts 0=o1 x fl now i:=by unfold o2 o1 Gi;simp
theorem M154 (h:p:=by
 rw[List.take_of_length_le hL,List.take_succ_eq_append_getElem hi,List.flatMap_append]
 simp only[List.flatMap_cons,List.flatMap_nil,List.append_nil]
 rfl):p:=h
theorem o2_end (x:XM)(fl:Bool)(now i:Nat)(hi:i<x.flows.length)(L:Nat)(hL:x.flows[i].s.tasks.length<=L):o2 x fl now i x.flows[i].flow x.flows[i].s.tasks L=o1 x fl now (i+1):=by
 unfold o2 o1
 exact M154
theorem o2_yes (x:XM)(fl:Bool)(now i:Nat)(f:ByteArray)(ts:List TK)(k:Nat)(hk:k<ts.length)(hp:ts[k].fl=fl/\ts[k].at'<=now):o2 x fl now i f ts (k+1)=Fw (o2 x fl now i f ts k) (Nk fl f ts[k]):=by
 unfold o2
 rw[PE fl now f ts k hk,if_pos hp, <-List.append_assoc,Gl]
theorem o2_no (x:XM)(fl:Bool)(now i:Nat)(f:ByteArray)(ts:List TK)(k:Nat)(hk:k<ts.length)(hp:¬(ts[k].fl=fl/\ts[k].at'<=now)):o2 x fl now i f ts (k+1)=o2 x fl now i f ts k:=by
 unfold o2
 rw[PE fl now f ts k hk,if_neg hp,List.append_nil]
theorem M111 (h:p:=by
 rw[List.length_take] at h1 h2
 have h3:(i+1)*M<=x.flows.length*M:=Nat.mul_le_mul_right M hi
 rw[Nat.succ_mul] at h3
 have h4:min i x.flows.length*M<=i*M:=Nat.mul_le_mul_right M (Nat.min_le_left _ _)
 omega):p:=h
theorem o2_len {x:XM}{M:Nat}(hM:∀h∈x.flows,h.s.tasks.length<=M)(hT:x.flows.length*M<=1000000000000)(fl:Bool)(now i:Nat)(f:ByteArray)(ts:List TK)(k:Nat)(hi:i<x.flows.length)(hts:ts.length<=M):(o2 x fl now i f ts k).length<=1000000000000:=by
 unfold o2
 rw[FF,List.length_append]
 have h1:=Ge (F:=refsOf fl now) (M:=M) (l:=x.flows.take i) fun h hh=>Nat.le_trans (Og fl now h) (hM h (List.mem_of_mem_take hh))
 have h2:=Yp fl now f (ts.take k)
 exact M111
theorem UM (l:List RF)(r:RF):(Fw l r).length=l.length+1:=by rw[<-(Pq l r).length_eq];simp
theorem M47 (h:p:=by
 have hlkz:¬(k:Int)<(L:Int):=O0
 obtain rfl:k=L:=O0
 have HB5:Hid (Below W0.heap.size W0 wr):=U (HB01.out.trans (HB2.out.mono HB01.out.size))
 have HO5:=U (by have h:=HO2.out;rw[HE2.out k (by rw[HL.out];exact Nat.le_refl _)] at h;exact h)
 go_wp2_with fail
 go_roundw
 case rel=>exact⟨i+1,by go_num,O0,HB5.out,HO5.out⟩
 case measure=>(simp[intOf];try omega)):p:=h
theorem M76 (h:p:=by
 go_wp2_with fail
 go_roundw
 case rel=>exact⟨k+1,by go_num,O0,HB3.out,HO4.out⟩
 case measure=>(simp[intOf];try omega)):p:=h
theorem M135 (h:p:=by
 have htz:(now:Int)<(ta:Int):=O0
 have htn:now<ta:=O0
 have HO4:=U (by have h:=HO3.out;rw[<-HNO.out (fun q=>hta q.2)] at h;exact h)
 exact M76):p:=h
theorem M151 (h:p:=by
 clear hb5 ho5 y0 y7 y8 y9 z0
 go_wp2_with fail
 go_roundw
 case rel=>exact⟨k+1,by go_num,O0,HB5.out,HO5.out⟩
 case measure=>(simp[intOf];try omega)):p:=h
theorem M175 (h:p:=by
 go_wp2_with fail
 go_ret
 exact⟨_,rfl,HBW.out,HOE.out⟩):p:=h
theorem M190 (h:p:=by
 have HO4:=U (by have h:=HO3.out;rw[<-HNO.out O3] at h;exact h)
 exact M76):p:=h
theorem Q281.Y280 (h:p:=by
 cases tf with
 | false=>
  exact M190
 | true=>
  by_cases hta:ta<=now
  ·have htz : ¬ (now : Int) < (ta : Int) := O0
   have htn:¬now<ta:=O0
   have HCI:=U (PH (o2 x true now i ff ts k) ff tid tn ta _ rfl u7 _ W2 HO3.out HLEN.out)
   have HIN:Hid (o2 x true now i ff ts (k+1)=Fw (o2 x true now i ff ts k) ⟨ff,tid,tn,ta⟩):=U (HYES.out ⟨rfl,hta⟩)
   go_wp2_with fail
   refine HCI.out.mono ?_
   rintro e w5 ⟨v5,rfl,hb5,ho5⟩
   have HB5:Hid (Below W1.heap.size W1 w5):=U (HB3.out.trans (hb5.mono HB3.out.size))
   have HO5:Hid (w5.ownsRow w.heap.size 53 4 v5 (o2 x true now i ff ts (k+1)).length ((o2 x true now i ff ts (k+1)).flatMap rfL)):=U (by
    rw[HIN.out,UM];exact Fx ho5 HBZ2.out.size)
   exact M151
  ·exact M135):p:=h
theorem Q454.Y452 (h:p:=by
 have hn0:0<=tn:=hok.n0
 have hn1:tn<=2147483647:=hok.n1
 have hwn:IntKind.i64.wrap (tn+1)=tn+1:=by rw[IntKind.wrap_i64];omega
 clear hcell hok hn0 hn1
 go_upto_region 10 with fail
 clear e0 e1 e2 e3 e4 e5 e6 e7 e8 e9 f5
 obtain⟨gt,hgt⟩:∃g,g=wr.heap.size:=⟨_,rfl⟩
 obtain⟨W2,hW2⟩:=Rv (wr.alloc (.cells #[.int .u64 (tid:Nat),.string tnm,.int .i64 kk,.int .i64 n,.float .f64 fv,.string s,.slice A' m' c',.int .i64 tn,.bool tf,.int .u64 (ta:Nat)] 39))
 have hb2:Below wr.heap.size wr W2:=by rw[hW2];exact Ru
 have hx2:W2.heap[gt]?=some (.cells #[.int .u64 (tid:Nat),.string tnm,.int .i64 kk,.int .i64 n,.float .f64 fv,.string s,.slice A' m' c',.int .i64 tn,.bool tf,.int .u64 (ta:Nat)] 39 (0,0)):=by rw[hW2,hgt];exact heap_alloc_new _ _
 rw[<-hgt, <-hW2]
 have y0:W2.cell? ⟨gt,0,none⟩=some (.int .u64 (tid:Nat)):=by simp[World.cell?,hx2]
 have y7:W2.cell? ⟨gt,7,none⟩=some (.int .i64 tn):=by simp[World.cell?,hx2]
 have y8:W2.cell? ⟨gt,8,none⟩=some (.bool tf):=by simp[World.cell?,hx2]
 have y9:W2.cell? ⟨gt,9,none⟩=some (.int .u64 (ta:Nat)):=by simp[World.cell?,hx2]
 have z0:W2.cell? ⟨g7,0,none⟩=some (.string ff):=(hb2.cell (p:=⟨g7,0,none⟩) (Nat.lt_of_lt_of_le HG7.out HB2.out.size)).trans f0
 have HB3:Hid (Below W1.heap.size W1 W2):=U (HB2.out.trans (hb2.mono HB2.out.size))
 have HBZ2:Hid (Below w.heap.size w W2):=U (HBZ.out.trans (hb2.mono HBZ.out.size))
 have HO3:=U (Gx HO2.out hb2)
 clear hb2 hx2 f0
 replace hW2:=U hW2;replace hgt:=U hgt
 exact Y280):p:=h
theorem M280 (h:p:=by
 obtain⟨t,ht⟩:=Rv (ts[k])
 rw[<-ht] at hcell hok HYES HNO
 clear hcells hcell0 ht
 obtain⟨tid,tnm,tv,tn,tf,ta⟩:=t
 open Q454 in exact M452):p:=h
theorem M648 (h:p:=by
 have HG7:Hid (g7<W1.heap.size):=U (by rw[hW1,hg7];simp)
 have HBW1:Hid (Below w.heap.size w W1):=U (HBW.out.trans (hb1.mono HBW.out.size))
 have HB01:Hid (Below W0.heap.size W0 W1):=U (HB1.out.trans (hb1.mono HB1.out.size))
 have HO1:=U (Gx HO.out hb1)
 rw[<-hg7, <-hW1]
 clear hb1
 replace hW1:=U hW1;replace hg7:=U hg7
 exact Y648):p:=h
theorem Q650.Y648 (h:p:=by
 go_wp2_with fail
 exact Y368):p:=h
theorem M368 (h:p:=by
 obtain⟨L,hL⟩:=Rv (ts.length)
 rw[<-hL] at d5 hcl
 have HL:=U hL
 clear e1 e2 hle hcap hrd hc hrh hq htk hr hlen h1 hcell hts hff hkc hkn hn3 hn4 hn5 hL hbl
 go_upto_region 6 with fail
 clear d0 d1 d2 d3 d4 d5 d6 x0 x1
 obtain⟨g7,hg7⟩:∃g,g=wr.heap.size:=⟨_,rfl⟩
 obtain⟨W1,hW1⟩:=Rv (wr.alloc (.cells #[.string ff,.slice A3 n3 c3,.int .i64 kc,.int .u64 (kn:Nat),.slice A4 n4 c4,.slice A2 L cap2,.slice A5 n5 c5] 84))
 have hb1:Below wr.heap.size wr W1:=by rw[hW1];exact Ru
 have HX1:Hid (W1.heap[g7]?=some (.cells #[.string ff,.slice A3 n3 c3,.int .i64 kc,.int .u64 (kn:Nat),.slice A4 n4 c4,.slice A2 L cap2,.slice A5 n5 c5] 84 (0,0))):=U (by rw[hW1,hg7];exact heap_alloc_new _ _)
 open Q650 in exact M648):p:=h
theorem M543 (h:p:=by
 obtain⟨k,rfl,hk,hb,ho⟩:=hrel
 have HB2:=U hb;have HO2:=U ho
 have HBZ:Hid (Below w.heap.size w wr):=U (HBW1.out.trans (hb.mono HBW1.out.size))
 have hx2:=(hb.block g7 HG7.out).trans HX1.out
 have f0:wr.cell? ⟨g7,0,none⟩=some (.string ff):=by simp[World.cell?,hx2]
 exact Y543):p:=h
theorem M675 (h:p:=by
 have hlkz:(k:Int)<(L:Int):=O0
 have hkl:k<ts.length:=by have:=HL.out;omega
 obtain⟨bb,off2,rfl,hbb,hcells⟩:=HKI.out O0
 obtain⟨lo,hi',kk,n,fv,s,A',m',c',hok,-,-,hcell0⟩:=hcells k hkl
 have hcell:=fun q hq=>(HBZ.out.cell (p:=⟨bb,off2+k*10+q,none⟩) hbb).trans (hcell0 q hq)
 exact Y675):p:=h
theorem Q676.Y675 (h:p:=by
 have HYES:=U (o2_yes x true now i ff ts k hkl)
 have HNO:=U (o2_no x true now i ff ts k hkl)
 have HLEN:Hid ((o2 x true now i ff ts k).length<=1000000000000):=U (o2_len HM.out HT.out true now i ff ts k hil HTL.out)
 open Q281 in exact M280):p:=h
theorem Q544.Y543 (h:p:=by
 have f5:wr.cell? ⟨g7,5,none⟩=some (.slice A2 L cap2):=by simp[World.cell?,hx2]
 clear hb ho hx2
 by_cases hlk:k<L
 ·open Q676 in exact M675
 ·exact M47):p:=h
theorem Q369.Y368 (h:p:=by
 go_loopw [7,10] (fun v u wz=>∃k:Nat,u= .int .i64 k/\k<=L/\Below W1.heap.size W1 wz/\wz.ownsRow w.heap.size 53 4 v (o2 x true now i ff ts k).length ((o2 x true now i ff ts k).flatMap rfL)) (fun _ u _=>L-(intOf u).toNat)
 case atStart=>exact⟨0,by go_num,Nat.zero_le _,Below.refl _ _,by rw[o2_0];exact HO1.out⟩
 case round=>
  open Q544 in exact M543):p:=h
theorem Q316.Y315 (h:p:=by
 have HE2:Hid (∀L,ts.length<=L->o2 x true now i ff ts L=o1 x true now (i+1)):=U fun L hL=>by
  subst hts hff;exact o2_end x true now i hil L hL
 open Q369 in exact M368):p:=h
theorem M658 (h:p:=by
 have hltz:(i:Int)<(nF:Int):=O0
 have hil:i<x.flows.length:=by have:=HNF.out;omega
 obtain⟨xs,⟨hlen,h1,A',cap',e1,hle,hcap,hrd⟩,hc⟩:=HH.out.flows
 obtain⟨b,off,e2,hbl,hr⟩:=hrd O0
 obtain rfl:AF=some ⟨b,off,none⟩:=by injection e1 with q _ _;rw[q,e2]
 obtain⟨-,ub,uk,ut,um,hrh,hq⟩:=hc.2 i hil
 exact Y658):p:=h
theorem M667 (h:p:=by
 obtain⟨ff,hff⟩:=Rv (x.flows[i].flow)
 obtain⟨kc,hkc⟩:=Rv (x.flows[i].s.closed)
 obtain⟨kn,hkn⟩:=Rv (x.flows[i].s.next)
 obtain⟨n3,hn3⟩:=Rv (x.flows[i].bs.length)
 obtain⟨n4,hn4⟩:=Rv (x.flows[i].s.keys.length)
 exact Y667):p:=h
theorem Q669.Y667 (h:p:=by
 obtain⟨n5,hn5⟩:=Rv (x.flows[i].s.timers.length)
 have hcell:=fun q (hq7:q<7) v hv=>(HBW.out.cell (p:=⟨b,off+(i*7+q),none⟩) hbl).trans (hr (i*7+q) v ((hq q hq7).trans hv))
 rw[<-hts] at hcell htk
 rw[<-hff, <-hkc, <-hkn, <-hn3, <-hn4, <-hn5] at hcell
 have d0:=hcell 0 O0 (.string ff) rfl;have d1:=hcell 1 O0 (.slice A3 n3 c3) rfl;have d2:=hcell 2 O0 (.int .i64 kc) rfl;have d3:=hcell 3 O0 (.int .u64 (kn:Nat)) rfl;have d4:=hcell 4 O0 (.slice A4 n4 c4) rfl;have d5:=hcell 5 O0 (.slice A2 ts.length cap2) rfl;have d6:=hcell 6 O0 (.slice A5 n5 c5) rfl
 rw[<-Nat.add_assoc] at d0 d1 d2 d3 d4 d5 d6
 rw[Nat.add_zero] at d0
 have hcp:cap2<=maxLen:=htk.2.1
 have hcl:ts.length<=cap2:=htk.1
 simp only[maxLen] at hcp
 have HKI:=U htk.2.2
 have HTL:Hid (ts.length<=M):=U (by rw[hts];exact HM.out _ (List.getElem_mem hil))
 exact Y315):p:=h
theorem Q659.Y658 (h:p:=by
 obtain⟨A2,cap2,rfl,htk⟩:=RTk.open hrh.tasks
 obtain⟨_,⟨-,-,A3,c3,rfl,-,-⟩,-⟩:=hrh.bs
 obtain⟨_,⟨-,-,A4,c4,rfl,-,-⟩,-⟩:=hrh.keys
 obtain⟨_,⟨-,-,A5,c5,rfl,-,-⟩,-⟩:=hrh.timers
 obtain⟨ts,hts⟩:=Rv (x.flows[i].s.tasks)
 open Q669 in exact M667):p:=h
theorem M315 (h:p:=by
 open Q659 in exact M658):p:=h
theorem M622 (h:p:=by
 obtain⟨i,rfl,hi,hb,ho⟩:=hrel
 have HB1:=U hb;have HO:=U ho
 have HBW:Hid (Below w.heap.size w wr):=U (HB0.out.trans (hb.mono HB0.out.size))
 clear hb ho
 obtain⟨x0,x1,-⟩:=(HI0.out.later HB1.out HI0.out.lt).cells
 exact Y622):p:=h
theorem Q623.Y622 (h:p:=by
 by_cases hlt:i<nF
 ·open Q316 in exact M315
 ·have hltz : ¬ (i : Int) < (nF : Int) := O0
  obtain rfl:i=nF:=O0
  have HOE:Hid (wr.ownsRow w.heap.size 53 4 u7 (DP true now x).length ((DP true now x).flatMap rfL)):=U (by
   have h:=HO.out
   rw[HNF.out,o1_end] at h;exact h)
  exact M175):p:=h
theorem Q336.Y335 (h:p:=by
 go_enter Tryz.func18,Tryz.ntmps18
 go_upto_region 1 with fail
 rw[<-hW0.out, <-hgb.out]
 go_wp2_with fail
 go_loopw [7,8] (fun v u wr=>∃i:Nat,u= .int .i64 i/\i<=nF/\Below W0.heap.size W0 wr/\wr.ownsRow w.heap.size 53 4 v (o1 x true now i).length ((o1 x true now i).flatMap rfL)) (fun _ u _=>nF-(intOf u).toNat)
 case atStart=>exact⟨0,by go_num,Nat.zero_le _,Below.refl _ _,by simp[World.ownsRow,o1_0]⟩
 case round=>
  open Q623 in exact M622):p:=h
theorem M335 (h:p:=by
 obtain⟨⟨AA,cA,rfl,-,-⟩,AF,cF,rfl,hF1,hF2⟩:=h.slices
 simp only[maxLen] at hF2
 obtain⟨nA,hnA⟩:∃n,n=x.all.length:=⟨_,rfl⟩
 obtain⟨nF,hnF⟩:∃n,n=x.flows.length:=⟨_,rfl⟩
 obtain⟨W0,hW0⟩:=Rv (w.alloc (.cells #[.slice AA nA cA,.slice AF nF cF] 27))
 obtain⟨gb,hgb⟩:∃g,g=w.heap.size:=⟨_,rfl⟩
 have hb0:Below w.heap.size w W0:=by rw[hW0];exact Ru
 have HI0:Hid (IBox W0 gb (.slice AA nA cA) (.slice AF nF cF)):=U (by rw[hW0,hgb];exact IBox.new ..)
 have HB0:=U hb0;have HH:=U h
 have HM:=U hM;have HT:=U hT
 rw[<-hnF] at hF1 hN
 rw[<-hnA, <-hnF]
 have HNF:=U hnF;have HNA:=U hnA
 clear h hb0 hnA hnF hM hT
 replace hW0:=U hW0;replace hgb:=U hgb
 exact Y335):p:=h
theorem rtasks_true (uA uF:Value)(x:XM)(now M:Nat)(w:World)(h:RIx w x uA uF)(hM:∀h∈x.flows,h.s.tasks.length<=M)(hT:x.flows.length*M<=1000000000000)(hN:x.flows.length<=1000000000000)(hMM:M<=1000000000000000) :
  Calls Tryz.prog 18 #[.agg #[uA,uF],.bool true,.int .u64 (now:Nat)] w fun e w'=>∃v',e= .returned v'/\Below w.heap.size w w'/\w'.ownsRow w.heap.size 53 4 v' (DP true now x).length ((DP true now x).flatMap rfL):=by
 open Q336 in exact M335
theorem Q282.Y280 (h:p:=by
 cases tf with
 | true=>
  exact M190
 | false=>
  by_cases hta:ta<=now
  ·have htz : ¬ (now : Int) < (ta : Int) := O0
   have htn:¬now<ta:=O0
   have HCI:=U (PH (o2 x false now i ff ts k) ff tid (tn+1) ta _ rfl u7 _ W2 HO3.out HLEN.out)
   have HIN:Hid (o2 x false now i ff ts (k+1)=Fw (o2 x false now i ff ts k) ⟨ff,tid,(tn+1),ta⟩):=U (HYES.out ⟨rfl,hta⟩)
   go_wp2_with fail
   refine HCI.out.mono ?_
   rintro e w5 ⟨v5,rfl,hb5,ho5⟩
   have HB5:Hid (Below W1.heap.size W1 w5):=U (HB3.out.trans (hb5.mono HB3.out.size))
   have HO5:Hid (w5.ownsRow w.heap.size 53 4 v5 (o2 x false now i ff ts (k+1)).length ((o2 x false now i ff ts (k+1)).flatMap rfL)):=U (by
    rw[HIN.out,UM];exact Fx ho5 HBZ2.out.size)
   exact M151
  ·exact M135):p:=h
theorem Q677.Y675 (h:p:=by
 have HYES:=U (o2_yes x false now i ff ts k hkl)
 have HNO:=U (o2_no x false now i ff ts k hkl)
 have HLEN:Hid ((o2 x false now i ff ts k).length<=1000000000000):=U (o2_len HM.out HT.out false now i ff ts k hil HTL.out)
 open Q282 in exact M280):p:=h
theorem Q545.Y543 (h:p:=by
 have f5:wr.cell? ⟨g7,5,none⟩=some (.slice A2 L cap2):=by simp[World.cell?,hx2]
 clear hb ho hx2
 by_cases hlk:k<L
 ·open Q677 in exact M675
 ·exact M47):p:=h
theorem Q370.Y368 (h:p:=by
 go_loopw [7,10] (fun v u wz=>∃k:Nat,u= .int .i64 k/\k<=L/\Below W1.heap.size W1 wz/\wz.ownsRow w.heap.size 53 4 v (o2 x false now i ff ts k).length ((o2 x false now i ff ts k).flatMap rfL)) (fun _ u _=>L-(intOf u).toNat)
 case atStart=>exact⟨0,by go_num,Nat.zero_le _,Below.refl _ _,by rw[o2_0];exact HO1.out⟩
 case round=>
  open Q545 in exact M543):p:=h
theorem Q317.Y315 (h:p:=by
 have HE2:Hid (∀L,ts.length<=L->o2 x false now i ff ts L=o1 x false now (i+1)):=U fun L hL=>by
  subst hts hff;exact o2_end x false now i hil L hL
 open Q370 in exact M368):p:=h
theorem Q624.Y622 (h:p:=by
 by_cases hlt:i<nF
 ·open Q317 in exact M315
 ·have hltz : ¬ (i : Int) < (nF : Int) := O0
  obtain rfl:i=nF:=O0
  have HOE:Hid (wr.ownsRow w.heap.size 53 4 u7 (DP false now x).length ((DP false now x).flatMap rfL)):=U (by
   have h:=HO.out
   rw[HNF.out,o1_end] at h;exact h)
  exact M175):p:=h
theorem Q337.Y335 (h:p:=by
 go_enter Tryz.func18,Tryz.ntmps18
 go_upto_region 1 with fail
 rw[<-hW0.out, <-hgb.out]
 go_wp2_with fail
 go_loopw [7,8] (fun v u wr=>∃i:Nat,u= .int .i64 i/\i<=nF/\Below W0.heap.size W0 wr/\wr.ownsRow w.heap.size 53 4 v (o1 x false now i).length ((o1 x false now i).flatMap rfL)) (fun _ u _=>nF-(intOf u).toNat)
 case atStart=>exact⟨0,by go_num,Nat.zero_le _,Below.refl _ _,by simp[World.ownsRow,o1_0]⟩
 case round=>
  open Q624 in exact M622):p:=h
theorem Xh (uA uF:Value)(x:XM)(now M:Nat)(w:World)(h:RIx w x uA uF)(hM:∀h∈x.flows,h.s.tasks.length<=M)(hT:x.flows.length*M<=1000000000000)(hN:x.flows.length<=1000000000000)(hMM:M<=1000000000000000) :
  Calls Tryz.prog 18 #[.agg #[uA,uF],.bool false,.int .u64 (now:Nat)] w fun e w'=>∃v',e= .returned v'/\Below w.heap.size w w'/\w'.ownsRow w.heap.size 53 4 v' (DP false now x).length ((DP false now x).flatMap rfL):=by
 open Q337 in exact M335
end Ta
end Go.Proofs.YtaahfiopdoinkaaGreat
