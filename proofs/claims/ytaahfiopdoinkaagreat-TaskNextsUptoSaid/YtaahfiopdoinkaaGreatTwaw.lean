/- The reference's outside: a timer fired. -/
import Derived.Laws.Rows
import Derived.Laws.IdiomRangeMap
import Derived.Test.YtaahfiopdoinkaaGreatTwaq
import Derived.Test.YtaahfiopdoinkaaGreatTwav
import Derived.Test.YtaahfiopdoinkaaGreatTwan
set_option maxRecDepth 100000
variable {p : Prop}
set_option linter.unusedVariables false
set_option linter.unusedSimpArgs false
open Go.RowKit
namespace Go.Proofs.YtaahfiopdoinkaaGreat
namespace Hi
open _root_.Go.Proofs.YtaahfiopdoinkaaGreat.Nm (Dk De)
open Vt (VT Rep Da DX DY)
open Ev (EV Dj Db Dn EBox take_drop tk ap rd1 rd2 Dh)
open Cm (rowOf EvsIn)
open Cn (BT BB BtsIn Gs)
variable {X X' Y Y' : Nat -> Prop} {u v w w' V V' : World} {hb bt bm bk n cap : Nat} {A : Option Addr} {h : HM}
theorem Lf : ∀ (l : List (Nat × Nat)) (j : Nat), (l.flatMap DU).take (j * 2) = (l.take j).flatMap DU
 | [],j=>O3
 | x::l,0=>O3
 | x::l,j+1=>by
  rw[List.flatMap_cons,List.take_succ_cons,List.flatMap_cons, <-Lf l j,Nat.succ_mul,List.take_append,FY,List.take_of_length_le (by rw[FY];omega),Nat.add_sub_cancel]
theorem Lg : ∀ (l : List (Nat × Nat)) (j : Nat), (l.flatMap DU).drop (j * 2) = (l.drop j).flatMap DU
 | [],j=>O3
 | x::l,0=>O3
 | x::l,j+1=>by
  rw[List.flatMap_cons,List.drop_succ_cons, <-Lg l j,Nat.succ_mul,List.drop_append,FY,List.drop_of_length_le (by rw[FY];omega),Nat.add_sub_cancel,List.nil_append]
theorem Q610.Y609 (h:p:=by
 clear hHeldZ cx fx
 exact Y508):p:=h
theorem M508 (h:p:=by
 obtain⟨Ar,cr,rfl,hbr⟩:=DN hown
 have HOF:=U hown;have HBRF:=U hbr
 have HBF:Hid (Below u0.heap.size u0 cF):=U (Dg HB0A.out hgr (fun r hr=>(own1_0A.out.lt r hr).1) HB0A.out.size)
 clear hown hgr hbr
 refine hK.out _ _ (HKS.out _ HBF.out) (fun hH01ABL=> ?_)
 clear hK K hH01AL
 try simp only[ap]
 refine tk 12 rfl ?_
 obtain⟨cx,fx⟩:=HCX.out cF HBF.out
 refine rd1 13 rfl fun K hK=> ?_
 open Q610 in exact M609):p:=h
theorem M642 (h:p:=by
 have hq6:RX w6 (w.heap.size+1+1) ⟨#[]⟩ (.slice none 0 0) 0 0 (.slice none 0 0) (.slice none 0 0) (.slice none 0 0):=by rw[hw6];exact(HX.out cF hbF1).2.2.1.far O0
 have HB6:Hid (Below w.heap.size w w6):=U (by rw[hw6];exact(HBW.out cF hbF1).setCell (p:=⟨w.heap.size,6,none⟩) (Nat.le_refl _) _)
 have HW6:=U hw6
 obtain⟨x0,x1,x2,x3,x4,x5,x6,xf⟩:=hx6.cells
 exact Y642):p:=h
theorem Q293.Y286 (h:p:=by
 clear qf xf hx6 hq6 hbF1
 rw[<-hw6]
 clear hw6
 go_wp2_with fail
 refine bodyPost_ret (v:= .tuple #[.agg #[.string f,.slice Bu nu cu,.int .i64 s.closed,.int .u64 (s.next:Nat),.slice Ak nk ck,.slice Aq nt ct,.slice Ar (j+(N-(j+1))) cr],.bool true]) (by simp[results,Tryz.results81,go_sem,q0,q1,q2,q3,q4,q5,q6]) rfl ?_
 obtain⟨W7,hW7⟩:=Rm (((((((w6.setCell ⟨w.heap.size+1+1,0,none⟩ (.string f)).setCell ⟨w.heap.size+1+1,1,none⟩ (.slice Bu nu cu)).setCell ⟨w.heap.size+1+1,2,none⟩ (.int .i64 s.closed)).setCell ⟨w.heap.size+1+1,3,none⟩ (.int .u64 (s.next:Nat))).setCell ⟨w.heap.size+1+1,4,none⟩ (.slice Ak nk ck)).setCell ⟨w.heap.size+1+1,5,none⟩ (.slice Aq nt ct)).setCell ⟨w.heap.size+1+1,6,none⟩ (.slice Ar (j+(N-(j+1))) cr))
 rw[<-hW7]
 exact HOUT.out cF w6 W7 Ar cr (j+(N-(j+1))) O0 HOF.out HBRF.out HBF.out HW6.out HB6.out hW7):p:=h
theorem Q644.Y642 (h:p:=by
 obtain⟨q0,q1,q2,q3,q4,q5,q6,qf⟩:=hq6.cells
 open Q293 in exact OT):p:=h
theorem Q510.Y508 (h:p:=by
 obtain⟨w6,hw6⟩:=Rm (cF.setCell ⟨w.heap.size,6,none⟩ (.slice Ar (j+(N-(j+1))) cr))
 have hbF1:Below W1.heap.size W1 cF:=HBu1.out _ HBF.out
 have hx6:RX w6 w.heap.size f (.slice Bu nu cu) s.closed s.next (.slice Ak nk ck) (.slice Aq nt ct) (.slice Ar (j+(N-(j+1))) cr):=by rw[hw6];exact(HX.out cF hbF1).1.set6
 open Q644 in exact M642):p:=h
theorem M4 (h:p:=by
 refine rd1 11 rfl fun K hK=> ?_
 refine Dd zw0A rfl _ _ 82 94 rfl i0 _ 2 16 Tryz.underlying82 HSZ.out hi0 hz0 hz1 hz2 rfl O1 u0.heap.size v1 (.slice (some ⟨mb,mo+(j+1)*2,none⟩) (N-(j+1)) (cm-(j+1))) j (N-(j+1)) (xs.take (j*2)) (xs.drop ((j+1)*2)) rfl rfl own1_0A.out (HIN2.out _ HB0A.out) (by simp only[maxLen];omega) O0 HB0A.out.size ?_
 intro vF cF hown hgr
 open Q510 in exact M508):p:=h
theorem Q291.Y286 (h:p:=by
 clear qf xf hx6 hq6 hbF1
 rw[<-hw6]
 clear hw6
 go_wp2_with fail
 refine bodyPost_ret (v:= .tuple #[.agg #[.string f,.slice Bu nu cu,.int .i64 s.closed,.int .u64 (s.next:Nat),.slice Ak nk ck,.slice Aq nt ct,.slice Ar j cr],.bool true]) (by simp[results,Tryz.results81,go_sem,q0,q1,q2,q3,q4,q5,q6]) rfl ?_
 obtain⟨W7,hW7⟩:=Rm (((((((w6.setCell ⟨w.heap.size+1+1,0,none⟩ (.string f)).setCell ⟨w.heap.size+1+1,1,none⟩ (.slice Bu nu cu)).setCell ⟨w.heap.size+1+1,2,none⟩ (.int .i64 s.closed)).setCell ⟨w.heap.size+1+1,3,none⟩ (.int .u64 (s.next:Nat))).setCell ⟨w.heap.size+1+1,4,none⟩ (.slice Ak nk ck)).setCell ⟨w.heap.size+1+1,5,none⟩ (.slice Aq nt ct)).setCell ⟨w.heap.size+1+1,6,none⟩ (.slice Ar j cr))
 rw[<-hW7]
 exact HOUT.out cF w6 W7 Ar cr j O0 HOF.out HBRF.out HBF.out HW6.out HB6.out hW7):p:=h
theorem Q643.Y642 (h:p:=by
 obtain⟨q0,q1,q2,q3,q4,q5,q6,qf⟩:=hq6.cells
 open Q291 in exact OT):p:=h
theorem Q509.Y508 (h:p:=by
 obtain⟨w6,hw6⟩:=Rm (cF.setCell ⟨w.heap.size,6,none⟩ (.slice Ar j cr))
 have hbF1:Below W1.heap.size W1 cF:=HBu1.out _ HBF.out
 have hx6:RX w6 w.heap.size f (.slice Bu nu cu) s.closed s.next (.slice Ak nk ck) (.slice Aq nt ct) (.slice Ar j cr):=by rw[hw6];exact(HX.out cF hbF1).1.set6
 open Q643 in exact M642):p:=h
theorem M8 (h:p:=by
 refine rd1 11 rfl fun K hK=> ?_
 refine Dd zw0A rfl _ _ 82 94 rfl i0 _ 2 16 Tryz.underlying82 HSZ.out hi0 hz0 hz1 hz2 rfl O1 u0.heap.size v1 (.slice (some ⟨mb,mo,none⟩) 0 0) j 0 (xs.take (j*2)) (xs.drop ((j+1)*2)) rfl rfl own1_0A.out (HIN2.out _ HB0A.out) (by simp only[maxLen];omega) O0 HB0A.out.size ?_
 intro vF cF hown hgr
 rw[Nat.add_zero] at hown
 open Q509 in exact M508):p:=h
theorem Q531.Y530 (h:p:=by
 refine hK.out _ _ (HKS.out _ HB0A.out) (fun hH01AL=> ?_)
 clear hK K hH01L
 try simp only[ap]
 exact M8):p:=h
theorem M25 (h:p:=by
 refine rd1 5 rfl fun K hK=> ?_
 refine Dd zw0 rfl _ _ 82 94 rfl i0 _ 2 16 Tryz.underlying82 HSZ.out hi0 hz0 hz1 hz2 rfl O1 u0.heap.size (.slice (some ⟨ia,0,none⟩) 0 0) (.slice (some ⟨mb,mo,none⟩) j (j+1)) 0 j [] (xs.take (j*2)) rfl rfl own0_0.out (HIN.out _ HB0.out) (by simp only[maxLen];omega) O0 HB0.out.size ?_
 open Q531 in exact M530):p:=h
theorem Q532.Y530 (h:p:=by
 refine hK.out _ _ (HKS.out _ HB0A.out) (fun hH01AL=> ?_)
 clear hK K hH01L
 try simp only[ap]
 exact M4):p:=h
theorem M32 (h:p:=by
 refine rd1 5 rfl fun K hK=> ?_
 refine Dd zw0 rfl _ _ 82 94 rfl i0 _ 2 16 Tryz.underlying82 HSZ.out hi0 hz0 hz1 hz2 rfl O1 u0.heap.size (.slice (some ⟨ia,0,none⟩) 0 0) (.slice (some ⟨mb,mo,none⟩) j cm) 0 j [] (xs.take (j*2)) rfl rfl own0_0.out (HIN.out _ HB0.out) (by simp only[maxLen];omega) O0 HB0.out.size ?_
 open Q532 in exact M530):p:=h
theorem Q363.Y361 (h:p:=by
 refine rd1 7 rfl fun K hK=> ?_
 obtain⟨cx,-⟩:=HCX.out zw0A HB0A.out
 go_simp
 refine hK.out _ _ (HKS.out _ HB0A.out) (fun hH01AL=> ?_)
 clear hK K hH0AL
 try simp only[ap]
 clear cx
 refine tk 10 rfl ?_
 exact M8):p:=h
theorem M65 (h:p:=by
 refine rd2 5 7 rfl rfl (fun K hK=> ?_) fun K hK=> ?_
 ·refine Dd zw0 rfl _ _ 82 94 rfl i0 _ 2 16 Tryz.underlying82 HSZ.out hi0 hz0 hz1 hz2 rfl O1 u0.heap.size (.slice (some ⟨ia, 0, none⟩) 0 0) (.slice (some ⟨mb, mo, none⟩) j (j + 1)) 0 j [] (xs.take (j * 2)) rfl rfl own0_0.out (HIN.out _ HB0.out) (by simp only [maxLen]; omega) O0 HB0.out.size ?_
  open Q363 in exact Ri
 ·obtain ⟨cx, -⟩ := HCX.out zw0 HB0.out
  go_simp
  refine hK.out _ _ (HKS.out _ HB0.out) (fun hH01L=> ?_)
  clear hK K hH0L
  try simp only[ap]
  clear cx
  refine tk 10 rfl ?_
  exact M25):p:=h
theorem Q364.Y361 (h:p:=by
 refine rd1 7 rfl fun K hK=> ?_
 obtain⟨cx,-⟩:=HCX.out zw0A HB0A.out
 go_simp
 refine hK.out _ _ (HKS.out _ HB0A.out) (fun hH01AL=> ?_)
 clear hK K hH0AL
 try simp only[ap]
 clear cx
 refine tk 10 rfl ?_
 exact M4):p:=h
theorem M73 (h:p:=by
 refine rd2 5 7 rfl rfl (fun K hK=> ?_) fun K hK=> ?_
 ·refine Dd zw0 rfl _ _ 82 94 rfl i0 _ 2 16 Tryz.underlying82 HSZ.out hi0 hz0 hz1 hz2 rfl O1 u0.heap.size (.slice (some ⟨ia, 0, none⟩) 0 0) (.slice (some ⟨mb, mo, none⟩) j cm) 0 j [] (xs.take (j * 2)) rfl rfl own0_0.out (HIN.out _ HB0.out) (by simp only [maxLen]; omega) O0 HB0.out.size ?_
  open Q364 in exact Ri
 ·obtain ⟨cx, -⟩ := HCX.out zw0 HB0.out
  go_simp
  refine hK.out _ _ (HKS.out _ HB0.out) (fun hH01L=> ?_)
  clear hK K hH0L
  try simp only[ap]
  clear cx
  refine tk 10 rfl ?_
  exact M32):p:=h
theorem Q267.Y264 (h:p:=by
 have own0_0:Hid (zw0.ownsRow u0.heap.size 94 2 (.slice (some ⟨ia,0,none⟩) 0 0) 0 []):=U (by rw[hc0,hia];exact World.ownsRow_lit u0 #[] 0 HBu.out.size (Nat.zero_le _) O3)
 clear hbz
 replace hc0:=U hc0
 replace hia:=U hia
 exact Y240):p:=h
theorem Vy (h:p:=by
 go_simp
 obtain⟨zw0,hc0⟩:∃u,u=u0.alloc (.cells #[] 94):=⟨_,rfl⟩
 open Q267 in exact KP):p:=h
theorem Q241.Y240 (h:p:=by
 refine hK.out _ _ (HKS.out _ HB0.out) (fun hH01L=> ?_)
 clear hK K hH1L
 try simp only[ap]
 exact M32):p:=h
theorem M80 (h:p:=by
 refine rd1 0 rfl fun K hK=> ?_
 open Q241 in exact Vy):p:=h
theorem Q242.Y240 (h:p:=by
 refine hK.out _ _ (HKS.out _ HB0.out) (fun hH01L=> ?_)
 clear hK K hH1L
 try simp only[ap]
 exact M25):p:=h
theorem M88 (h:p:=by
 refine rd1 0 rfl fun K hK=> ?_
 open Q242 in exact Vy):p:=h
theorem M112 (h:p:=by
 go_upto_region 27 with fail
 go_quiet (fail)
 generalize hw2:wr.drewN nq=w2 at *
 have HQ2:Hid (Below W1.heap.size W1 w2):=U (by rw[<-hw2];exact below_drewN HB.out nq)
 clear hw2
 go_wp2_with fail
 go_roundw
 case rel=>exact⟨j+1,O0,by go_num,HROUND.out,HQ2.out⟩
 case measure=>simp[intOf];omega):p:=h
theorem M125 (h:p:=by
 refine rd1 2 rfl fun K hK=> ?_
 obtain⟨cx,-⟩:=HCX.out zw0 HB0.out
 go_simp
 refine hK.out _ _ (HKS.out _ HB0.out) (fun hH01L=> ?_)
 clear hK K hH01
 try simp only[ap]
 clear cx
 refine tk 4 rfl ?_
 exact M32):p:=h
theorem M129 (h:p:=by
 refine rd1 2 rfl fun K hK=> ?_
 obtain⟨cx,-⟩:=HCX.out zw0 HB0.out
 go_simp
 refine hK.out _ _ (HKS.out _ HB0.out) (fun hH01L=> ?_)
 clear hK K hH01
 try simp only[ap]
 clear cx
 refine tk 4 rfl ?_
 exact M25):p:=h
theorem Q597.Y595 (h:p:=by
 clear cx
 refine tk 4 rfl ?_
 exact M65):p:=h
theorem Q243.Y240 (h:p:=by
 refine hK.out _ _ (HKS.out _ HB0.out) (fun hH0=> ?_)
 clear hK K hHeld
 try simp only[ap]
 refine rd2 2 7 rfl rfl (fun K hK=> ?_) fun K hK=> ?_
 ·open Q597 in exact Rg
 ·obtain ⟨cx, -⟩ := HCX.out zw0 HB0.out
  go_simp
  refine hK.out _ _ (HKS.out _ HB0.out) (fun hH01=> ?_)
  clear hK K hH0
  try simp only[ap]
  clear cx
  refine tk 10 rfl ?_
  exact M129):p:=h
theorem Q244.Y240 (h:p:=by
 refine hK.out _ _ (HKS.out _ HB0.out) (fun hH0L=> ?_)
 clear hK K hHL
 try simp only[ap]
 exact M65):p:=h
theorem Q565.Y563 (h:p:=by
 refine tk 4 rfl ?_
 refine rd2 0 7 rfl rfl (fun K hK=> ?_) fun K hK=> ?_
 ·open Q244 in exact Vy
 ·obtain ⟨cx, -⟩ := HCX.out u0 HBu.out
  go_simp
  refine hK.out _ _ (HKS.out _ HBu.out) (fun hH1L=> ?_)
  clear hK K hHL
  try simp only[ap]
  clear cx
  refine tk 10 rfl ?_
  exact M88):p:=h
theorem Q245.Y240 (h:p:=by
 refine hK.out _ _ (HKS.out _ HB0.out) (fun hH01=> ?_)
 clear hK K hH1
 try simp only[ap]
 exact M129):p:=h
theorem Q616.Y614 (h:p:=by
 refine tk 3 rfl ?_
 refine tk 6 rfl ?_
 refine tk 8 rfl ?_
 refine tk 9 rfl ?_
 refine wpAnyH_ready (rs:=[0,2,7]) O2 O3 ?_
 refine Dh rfl (fun K hK=> ?_) (Dh rfl (fun K hK=> ?_) (Dh rfl (fun K hK=> ?_) AllReadyH.nil))
 ·open Q243 in exact Vy
 ·open Q565 in exact Rh
 ·obtain ⟨cx, -⟩ := HCX.out u0 HBu.out
  go_simp
  refine hK.out _ _ (HKS.out _ HBu.out) (fun hH1=> ?_)
  clear hK K hHeld
  try simp only[ap]
  clear cx
  refine tk 10 rfl ?_
  refine rd2 0 2 rfl rfl (fun K hK=> ?_) fun K hK=> ?_
  ·open Q245 in exact Vy
  ·obtain ⟨cx, -⟩ := HCX.out u0 HBu.out
   go_simp
   refine hK.out _ _ (HKS.out _ HBu.out) (fun hH1L=> ?_)
   clear hK K hH1
   try simp only[ap]
   clear cx
   refine tk 4 rfl ?_
   exact M88):p:=h
theorem Q598.Y595 (h:p:=by
 clear cx
 refine tk 4 rfl ?_
 exact M73):p:=h
theorem Q246.Y240 (h:p:=by
 refine hK.out _ _ (HKS.out _ HB0.out) (fun hH0=> ?_)
 clear hK K hHeld
 try simp only[ap]
 refine rd2 2 7 rfl rfl (fun K hK=> ?_) fun K hK=> ?_
 ·open Q598 in exact Rg
 ·obtain ⟨cx, -⟩ := HCX.out zw0 HB0.out
  go_simp
  refine hK.out _ _ (HKS.out _ HB0.out) (fun hH01=> ?_)
  clear hK K hH0
  try simp only[ap]
  clear cx
  refine tk 10 rfl ?_
  exact M125):p:=h
theorem Q247.Y240 (h:p:=by
 refine hK.out _ _ (HKS.out _ HB0.out) (fun hH0L=> ?_)
 clear hK K hHL
 try simp only[ap]
 exact M73):p:=h
theorem Q566.Y563 (h:p:=by
 refine tk 4 rfl ?_
 refine rd2 0 7 rfl rfl (fun K hK=> ?_) fun K hK=> ?_
 ·open Q247 in exact Vy
 ·obtain ⟨cx, -⟩ := HCX.out u0 HBu.out
  go_simp
  refine hK.out _ _ (HKS.out _ HBu.out) (fun hH1L=> ?_)
  clear hK K hHL
  try simp only[ap]
  clear cx
  refine tk 10 rfl ?_
  exact M80):p:=h
theorem Q248.Y240 (h:p:=by
 refine hK.out _ _ (HKS.out _ HB0.out) (fun hH01=> ?_)
 clear hK K hH1
 try simp only[ap]
 exact M125):p:=h
theorem Q617.Y614 (h:p:=by
 refine tk 3 rfl ?_
 refine tk 6 rfl ?_
 refine tk 8 rfl ?_
 refine tk 9 rfl ?_
 refine wpAnyH_ready (rs:=[0,2,7]) O2 O3 ?_
 refine Dh rfl (fun K hK=> ?_) (Dh rfl (fun K hK=> ?_) (Dh rfl (fun K hK=> ?_) AllReadyH.nil))
 ·open Q246 in exact Vy
 ·open Q566 in exact Rh
 ·obtain ⟨cx, -⟩ := HCX.out u0 HBu.out
  go_simp
  refine hK.out _ _ (HKS.out _ HBu.out) (fun hH1=> ?_)
  clear hK K hHeld
  try simp only[ap]
  clear cx
  refine tk 10 rfl ?_
  refine rd2 0 2 rfl rfl (fun K hK=> ?_) fun K hK=> ?_
  ·open Q248 in exact Vy
  ·obtain ⟨cx, -⟩ := HCX.out u0 HBu.out
   go_simp
   refine hK.out _ _ (HKS.out _ HBu.out) (fun hH1L=> ?_)
   clear hK K hH1
   try simp only[ap]
   clear cx
   refine tk 4 rfl ?_
   exact M80):p:=h
theorem Q536.Y534 (h:p:=by
 have HKS2:Hid (∀W v,Below u0.heap.size u0 W->(fun W:World=>W.cell? ⟨w.heap.size+3,5,none⟩=some (.string text)) (W.setCell ⟨w.heap.size,6,none⟩ v)):=U fun W v hW=>(World.cell?_of_block (a:=⟨w.heap.size+3,5,none⟩) (RowKit.Below.heap_setCell _ _ _ _ (by show w.heap.size+3≠w.heap.size;omega))).trans (HKS.out W hW)
 have HCX:Hid (∀W,Below u0.heap.size u0 W->W.cell? ⟨w.heap.size,6,none⟩=some (.slice (some ⟨mb,mo,none⟩) N cm)/\W.frozen? ⟨w.heap.size,6,none⟩=false):=U fun W hW=>⟨(HX.out W (HBu1.out W hW)).1.cells.2.2.2.2.2.2.1,(HX.out W (HBu1.out W hW)).1.cells.2.2.2.2.2.2.2 6⟩
 have HL2:Hid (xs.length=N*2):=U (by rw[HNN.out];exact HLEN.out)
 have HC:Hid (∀W,Below u0.heap.size u0 W->∀p x,xs[p]?=some x->W.cell? ⟨mb,mo+p,none⟩=some x):=U fun W hW p x hx=>((HBW.out W (HBu1.out W hW)).cell (p:=⟨mb,mo+p,none⟩) hmb).trans (h39 p x hx)
 have HMB:Hid (∀W,Below u0.heap.size u0 W->mb<W.heap.size):=U fun W hW=>Nat.lt_of_lt_of_le hmb (HBW.out W (HBu1.out W hW)).size
 have HIN:Hid (∀W,Below u0.heap.size u0 W->CIn W (.slice (some ⟨mb,mo,none⟩) j cm) j 2 (xs.take (j*2))):=U fun W hW=>CIn.take HL2.out HCI.out.2.1 hle9 hcp9 (HMB.out W hW) (HC.out W hW) O0
 have HIN2a:Hid (∀W,Below u0.heap.size u0 W->CIn W (.slice (some ⟨mb,mo+(j+1)*2,none⟩) (N-(j+1)) (cm-(j+1))) (N-(j+1)) 2 (xs.drop ((j+1)*2))):=U fun W hW=>CIn.drop HL2.out HCI.out.2.1 hle9 hcp9 (HMB.out W hW) (HC.out W hW) O0
 have HIN2b:Hid (cm=j+1->∀W,Below u0.heap.size u0 W->CIn W (.slice (some ⟨mb,mo,none⟩) (N-(j+1)) 0) (N-(j+1)) 2 (xs.drop ((j+1)*2))):=U fun e W hW=>by
  have:=HL2.out
  rw[List.drop_of_length_le O0,show N-(j+1)=0 by omega]
  exact M187
 have HOUT:Hid (∀(cF w6 W7:World) (Ar:Option Addr) (cr NR:Nat),NR=j+(N-(j+1))->cF.ownsRow u0.heap.size 94 2 (.slice Ar NR cr) NR (xs.take (j*2)++xs.drop ((j+1)*2))->(∀r,rowOf Ar=some r->u0.heap.size<=r)->Below u0.heap.size u0 cF->w6=cF.setCell ⟨w.heap.size,6,none⟩ (.slice Ar NR cr)->Below w.heap.size w w6->
   W7=((((((w6.setCell ⟨w.heap.size+1+1,0,none⟩ (.string f)).setCell ⟨w.heap.size+1+1,1,none⟩ (.slice Bu nu cu)).setCell ⟨w.heap.size+1+1,2,none⟩ (.int .i64 s.closed)).setCell ⟨w.heap.size+1+1,3,none⟩ (.int .u64 (s.next:Nat))).setCell ⟨w.heap.size+1+1,4,none⟩ (.slice Ak nk ck)).setCell ⟨w.heap.size+1+1,5,none⟩ (.slice Aq nt ct)).setCell ⟨w.heap.size+1+1,6,none⟩ (.slice Ar NR cr)->
   PT X w f (.slice Bu nu cu) (Dc at' al ⟨5,id,en,ea,name,text,ev⟩ s) (.returned (.tuple #[.agg #[.string f,.slice Bu nu cu,.int .i64 s.closed,.int .u64 (s.next:Nat),.slice Ak nk ck,.slice Aq nt ct,.slice Ar NR cr],.bool true])) W7):=U fun cF w6 W7 Ar cr NR hNR ho hbr hbF hw6 hb6 hW7=>by
  have hb7:Below w.heap.size w W7:=by rw[hW7];exact Fk (g:=w.heap.size+1+1) hb6 (Nat.le_succ_of_le (Nat.le_succ _)) _ _ _ _ _ _ _
  have hs:=HS1.out
  have hu:=HBu0.out
  have ho7:=Dx (w':=W7) ho (fun r hr=>by
   have:=hbr r hr
   rw[hW7,GR O0,hw6]
   exact RowKit.Below.heap_setCell _ _ _ _ (by show r≠w.heap.size;omega))
  refine⟨hb7,s.closed,s.next,.slice Ak nk ck,.slice Aq nt ct,.slice Ar NR cr,⟨_,_,_,rfl⟩,⟨_,_,_,rfl⟩,⟨_,_,_,rfl⟩,by rw[HN.out];rfl,fun s' hs=> ?_⟩
  rw[HN.out] at hs
  cases hs
  have hp:=Nt HFI.out.timers HJT.out
  rw[<-HTT.out] at hp
  dsimp only at hp
  rw[H1.out] at hp
  refine⟨rfl,rfl,⟨(HRV.out.leads (Dt X hb7)).keys,(HRV.out.leads (Dt X hb7)).tasks,⟨xs.take (j*2)++xs.drop ((j+1)*2),?_,?_⟩⟩⟩
  ·have e:(Om s.timers id).length=NR:=by
    have:=HNN.out
    rw[<-hp,List.length_append,List.length_take,List.length_drop];omega
   dsimp only
   rw[e]
   refine CIn.of_veil ho7 ?_ (by intro c hc;have:=HXB.out c hc;have:=HBu0.out;have:=HS1.out;omega)
   intro x hx
   rcases List.mem_append.1 hx with q|q
   ·exact HCI.out.2.1 x (List.mem_of_mem_take q)
   ·exact HCI.out.2.1 x (List.mem_of_mem_drop q)
  ·dsimp only
   unfold TmC
   rw[<-hp,List.flatMap_append, <-Lf, <-Lg,HTMC.out]
 have f1:j<=cm:=O0
 have f2:(j:Int)<=(j:Int)+1:=O0
 have f3:(0:Int)<=(j:Int)+1:=O0
 have f4:(j:Int)+1<=(N:Int):=O0
 have f5:((j:Int)+1).toNat=j+1:=O0
 have ka:=IntWalk.i64_in ((j:Int)+1) O0
 by_cases hcj:cm=j+1
 ·subst hcj
  obtain rfl:N=j+1:=O0
  have HIN2:Hid (∀W,Below u0.heap.size u0 W->CIn W (.slice (some ⟨mb,mo,none⟩) 0 0) 0 2 (xs.drop ((j+1)*2))):=U (fun W hW=>by have:=HIN2b.out rfl W hW;rw[Nat.sub_self] at this;exact this)
  open Q616 in exact M614
 ·have HIN2 := HIN2a
  open Q617 in exact M614):p:=h
theorem Q299.Y286 (h:p:=by
 clear qf
 go_wp2_with fail
 refine bodyPost_ret (v:= .tuple #[.agg #[.string f,.slice Bu nu cu,.int .i64 s.closed,.int .u64 (s.next:Nat),.slice Ak nk ck,.slice Aq nt ct,.slice Am j cm],.bool false]) (by simp[results,Tryz.results81,go_sem,q0,q1,q2,q3,q4,q5,q6]) rfl ?_
 exact⟨Fk (HBW.out wr HB.out) (Nat.le_succ_of_le (Nat.le_succ _)) _ _ _ _ _ _ _,s.closed,s.next,.slice Ak nk ck,.slice Aq nt ct,.slice Am j cm,⟨_,_,_,rfl⟩,⟨_,_,_,rfl⟩,⟨_,_,_,rfl⟩,by rw[HN.out];rfl,fun s' hs=>by rw[HN.out] at hs;cases hs⟩):p:=h
theorem Q231.Y226 (h:p:=by
 go_upto_region 24 with (go_at_call 113;refine HTK.out.mono ?_;rintro x w1 ⟨⟨ti,rfl,hti⟩,hq1⟩;have HTI:=U (Uc HFI.out.tasks hti);have HQ1:=U hq1;clear hti hq1 x0 x1 x2 x3 x4 x5 x6 e0 e1 e2 e3 e4 e5 e6 e7 e8 e9 e10;obtain⟨x0,x1,x2,x3,x4,x5,x6,-⟩:=(HX.out w1 HQ1.out).1.cells;obtain⟨y0,y1,y2,-⟩:=(HX.out w1 HQ1.out).2.1.cells;obtain⟨e0,e1,e2,e3,e4,e5,e6,e7,e8,e9,e10⟩:=EBox.cells (HX.out w1 HQ1.out).2.2.2;dsimp only at e0 e1 e2 e3 e4 e5)
 obtain⟨xs,hcinV,htm⟩:=HRV.out.timers
 have hcin:=hcinV.leads (Df X w)
 clear hcinV
 have HCI:=U hcin;have HTMC:=U htm
 obtain⟨hlen,-,A9,cap9,heq9,hle9,hcp9,hrd9⟩:=hcin
 obtain⟨rfl,rfl,rfl⟩:Am=A9/\nm=s.timers.length/\cm=cap9:=by injection heq9 with a1 a2 a3;exact⟨a1,a2,a3⟩
 have HRD:=U hrd9;have HLEN:=U hlen
 simp only[maxLen] at hcp9
 obtain⟨N,hN⟩:=Rm (s.timers.length)
 rw[<-hN] at hle9 hn2 HX x6
 have HNN:=U hN
 obtain⟨i0,hi0,hz0,hz1,hz2⟩:=info_parts Tryz.infoRm
 have HSZ:=U (Od hi0 hz1)
 clear hN hrd9 hlen heq9 htm HTI
 go_wp2_with fail
 clear x0 x1 x2 x3 x4 x5 x6 y0 y1 y2 e0 e1 e2 e3 e4 e5 e6 e7 e8 e9 e10
 go_loopw [11] (fun i wr=>∃(j:Nat),j<=N/\i= .int .i64 j/\(∀q (hq:q<s.timers.length),q<j->¬((s.timers[q]).1=id/\(s.timers[q]).2<=at'))/\Below W1.heap.size W1 wr) (fun i _=>N-(intOf i).toNat)
 case atStart=>exact⟨0,O0,rfl,fun q _ h=>absurd h O0,HQ1.out⟩
 case round=>
  obtain⟨j,hj,rfl,hno,hb⟩:=hrel
  have HNO:=U hno;have HB:=U hb
  clear hno hb
  obtain⟨x0,x1,x2,x3,x4,x5,x6,xf⟩:=(HX.out wr HB.out).1.cells
  obtain⟨y0,y1,y2,-⟩:=(HX.out wr HB.out).2.1.cells
  obtain⟨e0,e1,e2,e3,e4,e5,e6,e7,e8,e9,e10⟩:=EBox.cells (HX.out wr HB.out).2.2.2
  dsimp only at e0 e1 e2 e3 e4 e5
  by_cases hlt:j<N
  ·obtain ⟨mb, mo, rfl, hmb, h39⟩ := HRD.out (by have := HNN.out; omega)
   have hjt:j<s.timers.length:=by have:=HNN.out;omega
   obtain⟨tm,htm⟩:=Rm (s.timers[j])
   have HTT:=U htm
   obtain⟨tid,tat⟩:=tm
   have g0:=h39 (j*2+0) (.int .u64 (tid:Nat)) (by rw[HTMC.out,Gm DU 2 FY _ j 0 hjt O0, <-HTT.out];rfl)
   have g1:=h39 (j*2+1) (.int .u64 (tat:Nat)) (by rw[HTMC.out,Gm DU 2 FY _ j 1 hjt O0, <-HTT.out];rfl)
   have t0:=((HBW.out wr HB.out).cell (p:=⟨mb,mo+(j*2+0),none⟩) hmb).trans g0
   have t1:=((HBW.out wr HB.out).cell (p:=⟨mb,mo+(j*2+1),none⟩) hmb).trans g1
   rw[Nat.add_zero] at t0
   rw[<-Nat.add_assoc] at t1
   have HJT:=U hjt
   clear g0 g1 htm
   by_cases h1:tid=id
   ·by_cases h2 : tat <= at'
    ·have HN:Hid (Dc at' al ⟨5,id,en,ea,name,text,ev⟩ s=some {s with timers:=Om s.timers id}):=U (by
      have hg:=Le HFI.out.timers HJT.out
      rw[<-HTT.out] at hg
      dsimp only at hg
      rw[h1] at hg
      simp[Dc,hg,h2])
     have k1:((tid:Int)==(id:Int))=true:=by simp;omega
     have k2:decide ((tat:Int)<=(at':Int))=true:=decide_eq_true O0
     have H1:=U h1
     clear h1
     go_upto_region 27 with fail
     go_quiet (fail)
     generalize hw2:wr.drewN nq=w2 at *
     have HQ2:Hid (Below W1.heap.size W1 w2):=U (by rw[<-hw2];exact below_drewN HB.out nq)
     clear hw2
     go_upto_region 28 with fail
     clear x0 x1 x2 x3 x4 x5 x6 y0 y1 y2 e0 e1 e2 e3 e4 e5 e6 e7 e8 e9 e10 t0 t1
     obtain⟨u0,hu0⟩:∃u,u=w2.drew:=⟨_,rfl⟩
     open Q536 in exact M534
    ·have k1 : ((tid : Int) == (id : Int)) = true := by simp; omega
     have k2:decide ((tat:Int)<=(at':Int))=false:=decide_eq_false O0
     have h2n:at'<tat:=O0
     have HROUND:Hid (∀q (hq:q<s.timers.length),q<j+1->¬((s.timers[q]).1=id/\(s.timers[q]).2<=at')):=U fun q hq hlq=>by
      by_cases e:q=j
      ·subst e;rw[<-HTT.out];exact fun h=>h2 h.2
      ·exact HNO.out q hq O0
     have H1:=U h1
     clear h1
     exact M112
   ·have k1 : ((tid : Int) == (id : Int)) = false := by simp; omega
    have HROUND:Hid (∀q (hq:q<s.timers.length),q<j+1->¬((s.timers[q]).1=id/\(s.timers[q]).2<=at')):=U fun q hq hlq=>by
     by_cases e:q=j
     ·subst e;rw[<-HTT.out];exact fun h=>h1 h.1
     ·exact HNO.out q hq O0
    exact M112
  ·have hj' : j = N := O0
   have HN:Hid (Dc at' al ⟨5,id,en,ea,name,text,ev⟩ s=none):=U (by
    have hnn:=HNN.out
    cases hg:FR s.timers id with
    | none=>simp[Dc,hg]
    | some x=>
     have h1:=List.mem_of_find?_eq_some hg
     have h2:=List.find?_some hg
     obtain⟨q,hq,rfl⟩:=List.getElem_of_mem h1
     have h3:=HNO.out q hq O0
     have h4:¬(s.timers[q]).2<=at':=fun h=>h3 ⟨by simpa using h2,h⟩
     simp[Dc,hg,h4])
   subst hj'
   clear x0 x1 x2 x3 x4 x5 x6 y0 y1 y2 e0 e1 e2 e3 e4 e5 e6 e7 e8 e9 e10
   obtain⟨x0,x1,x2,x3,x4,x5,x6,xf⟩:=(HX.out wr HB.out).1.cells
   obtain⟨y0,y1,y2,-⟩:=(HX.out wr HB.out).2.1.cells
   obtain⟨e0,e1,e2,e3,e4,e5,e6,e7,e8,e9,e10⟩:=EBox.cells (HX.out wr HB.out).2.2.2
   dsimp only at e0 e1 e2 e3 e4 e5
   obtain⟨q0,q1,q2,q3,q4,q5,q6,qf⟩:=(HX.out wr HB.out).2.2.1.cells
   open Q299 in exact OT):p:=h
theorem Q239.Y232 (h:p:=by
 have HX:Hid (∀W,Below W1.heap.size W1 W->RX W w.heap.size f (.slice Bu nu cu) s.closed s.next (.slice Ak nk ck) (.slice Aq nt ct) (.slice Am nm cm)/\BB W (w.heap.size+1) ff at' (some ⟨eb,eo,none⟩) m cap/\RX W (w.heap.size+1+1) ⟨#[]⟩ (.slice none 0 0) 0 0 (.slice none 0 0) (.slice none 0 0) (.slice none 0 0)/\EBox W (w.heap.size+3) (Db ⟨5,id,en,ea,name,text,ev⟩ vk vn vf vs A0 m0 c0)):=U fun W hW=>by
  exact M48
 open Q231 in exact M226):p:=h
theorem Q317.Y310 (h:p:=by
 obtain⟨W1,hW1⟩:=Rm (W0.alloc (.cells (Db ⟨5,id,en,ea,name,text,ev⟩ vk vn vf vs A0 m0 c0) 61))
 open Q239 in exact KQ):p:=h
theorem Q221.Y215 (h:p:=by
 obtain rfl:k=5:=hk
 open Q317 in exact KN):p:=h
set_option maxHeartbeats 2000000 in
theorem out5_any (s:ST)(f:ByteArray)(Bu:Option Addr)(nu cu:Nat)(uk ut um:Value)(b:BT)(A:Option Addr)(cap:Nat)(w:World)(h:OIn X w s uk ut um b A cap)(hp:0<b.es.length)(he:FW (b.es[0]'hp))(hk:b.es[0].k=5) :
  Calls Tryz.prog 81 #[.agg (rhC f (.slice Bu nu cu) s.closed s.next uk ut um),.agg #[.string b.flow,.int .u64 (b.at':Nat),.slice A b.es.length cap]] w (PT X w f (.slice Bu nu cu) (Dc b.at' (decide (b.es.length=1)) (b.es[0]'hp) s)):=by
 open Q221 in exact Rj
variable {X : Nat -> Prop}
theorem Pb (s:ST)(f:ByteArray)(Bu:Option Addr)(nu cu:Nat)(uk ut um:Value)(b:BT)(A:Option Addr)(cap:Nat)(w:World)(h:OIn X w s uk ut um b A cap)(hp:0<b.es.length)(he:FW (b.es[0]'hp))(hk:(b.es[0]'hp).k<=6) :
  Calls Tryz.prog 81 #[.agg (rhC f (.slice Bu nu cu) s.closed s.next uk ut um),.agg #[.string b.flow,.int .u64 (b.at':Nat),.slice A b.es.length cap]] w (PT X w f (.slice Bu nu cu) (Dc b.at' (decide (b.es.length=1)) (b.es[0]'hp) s)):=by
 have h1:=he.k0
 have hc:(b.es[0]'hp).k=1\/(b.es[0]'hp).k=2\/(b.es[0]'hp).k=3\/(b.es[0]'hp).k=4\/(b.es[0]'hp).k=5\/(b.es[0]'hp).k=6:=O0
 rcases hc with q|q|q|q|q|q
 ·exact out1_any s f Bu nu cu uk ut um b A cap w h hp he q
 ·exact out2_any s f Bu nu cu uk ut um b A cap w h hp he q
 ·exact out3_any s f Bu nu cu uk ut um b A cap w h hp he q
 ·exact out4_any s f Bu nu cu uk ut um b A cap w h hp he q
 ·exact out5_any s f Bu nu cu uk ut um b A cap w h hp he q
 ·exact out6_any s f Bu nu cu uk ut um b A cap w h hp he q
variable {X X' Y Y' : Nat -> Prop} {u v w w' V V' : World} {hb bt bm bk n cap : Nat} {A : Option Addr} {h : HM}
theorem Tryz.infoHt : (Tryz.prog.info? 89).map (fun i=>(i.zero,i.size,i.bytes))=some (some (.agg #[.int .u64 0,.int .u64 0]),2,16):=O2
open Vt (Gy)
open Cm (FU Gr OJ)
variable {v w w' : World}
def BSame (b b':BT):Prop:=b.flow=b'.flow/\b.at'=b'.at'/\FU b.es b'.es=true
def TSame (t t':TK):Prop:=t.id=t'.id/\t.name=t'.name/\t.n=t'.n/\t.fl=t'.fl/\t.at'=t'.at'/\t.v.same t'.v=true
structure HSame (h h' : HM) : Prop where
 flow:h.flow=h'.flow
 closed:h.s.closed=h'.s.closed
 next:h.s.next=h'.s.next
 keys:h.s.keys=h'.s.keys
 timers:h.s.timers=h'.s.timers
 blen:h'.bs.length=h.bs.length
 bs:∀i (h1:i<h.bs.length) (h2:i<h'.bs.length),BSame h.bs[i] h'.bs[i]
 tlen:h'.s.tasks.length=h.s.tasks.length
 tasks:∀i (h1:i<h.s.tasks.length) (h2:i<h'.s.tasks.length),TSame h.s.tasks[i] h'.s.tasks[i]
variable {X X' Y Y' : Nat -> Prop} {u v w w' V V' : World} {hb bt bm bk n cap : Nat} {A : Option Addr} {h : HM}
theorem HSame.at {h h':HM}(k:HSame h h'):h.at'=h'.at':=by
 unfold HM.at'
 rw[List.getLast?_eq_getElem?,List.getLast?_eq_getElem?,k.blen]
 by_cases hp:h.bs.length-1<h.bs.length
 ·rw [List.getElem?_eq_getElem hp, List.getElem?_eq_getElem (by rw [k.blen]; exact hp)]
  exact(k.bs _ hp (by rw[k.blen];exact hp)).2.1
 ·rw[List.getElem?_eq_none O0,List.getElem?_eq_none (by rw[k.blen];omega)]
end Hi
end Go.Proofs.YtaahfiopdoinkaaGreat
