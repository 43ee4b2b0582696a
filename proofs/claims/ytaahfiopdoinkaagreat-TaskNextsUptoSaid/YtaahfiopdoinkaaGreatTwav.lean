/- The reference's outside: an activity broken. -/
import Derived.Laws.Rows
import Derived.Laws.IdiomRangeMap
import Derived.Test.YtaahfiopdoinkaaGreatTwaq
set_option maxRecDepth 100000
set_option maxHeartbeats 4000000
variable {p : Prop}
set_option linter.unusedVariables false
set_option linter.unusedSimpArgs false
open Go.RowKit
namespace Go.Proofs.YtaahfiopdoinkaaGreat
namespace Hi
open _root_.Go.Proofs.YtaahfiopdoinkaaGreat.Nm (Dk De)
open Vt (VT Rep Da DX DY)
open Ev (EV Dj Db Dn EBox take_drop tk ap rd1 rd2 Dh)
open Cm (rowOf EvsIn)
open Cn (BT BB BtsIn Gs)
variable {X X' Y Y' : Nat -> Prop} {u v w w' V V' : World} {hb bt bm bk n cap : Nat} {A : Option Addr} {h : HM}
theorem Q559.Y556 (h:p:=by
 exact⟨Fk (HBW.out W4 HB4.out) (Nat.le_succ_of_le (Nat.le_succ _)) _ _ _ _ _ _ _,s.closed,s.next,.slice Ak nk ck,.slice (some ⟨tb,tf0,none⟩) L ct,.slice Am nm cm,⟨_,_,_,rfl⟩,⟨_,_,_,rfl⟩,⟨_,_,_,rfl⟩,by rw[HN.out];rfl,fun s' hs=>by rw[HN.out] at hs;cases hs⟩):p:=h
theorem Q300.Y286 (h:p:=by
 open Q559 in exact M556):p:=h
theorem Q526.Y523 (h:p:=by
 obtain⟨q0,q1,q2,q3,q4,q5,q6,qf⟩:=(HX.out W4 HB4.out).2.2.1.cells
 open Q300 in exact OT):p:=h
theorem M64 (h:p:=by
 have HB4:Hid (Below W1.heap.size W1 W4):=U (by rw[hW4];exact(HB3.out.setCell (p:=⟨w2.heap.size,8,none⟩) HZ2.out _).setCell (p:=⟨w2.heap.size,9,none⟩) HZ2.out _)
 clear hW4 c0 c1 c2 c3 c4 c5 c6 c7 c8 c9 cf7 cf8 cf9
 open Q526 in exact M523):p:=h
theorem Q257.Y255 (h:p:=by
 have hr7:=UH (dn:=false) (t:=⟨tid,tname,tv,tn,false,ea⟩) hi' (by obtain⟨o1,-,-,-,o5⟩:=HTKO.out;exact⟨o1,tn0,tn1,HE.out.f.a1,o5⟩) HTR.out HTH.out HTKC.out HCI.out.2.1 hb7 O3 ho7 (by intro c hc;have:=HXB.out c hc;have:=HB4.out.size;have:=HS1.out;omega)
 have hp:=YD HFI.out.tasks (i:=i) hi' ⟨tid,tname,tv,tn,false,ea⟩ (by rw[<-HTT.out])
 exact M93):p:=h
theorem Q647.Y645 (h:p:=by
 have HWI:=U (Sz L xs i hi ⟨tid,tname,tv,tn,false,ea⟩ tk tn' tf ts tA tm tc false (.slice (some ⟨tb,tf0,none⟩) L ct) W4 (by rw[HLL.out];exact HCI.out.later (HBW.out _ HB4.out)) hn1)
 obtain⟨c0,c1,c2,c3,c4,c5,c6,c7,c8,c9,cf⟩:=Fc (show W4.heap[w2.heap.size]?=some (.cells #[.int .u64 (tid:Nat),.string tname,.int .i64 tk,.int .i64 tn',.float .f64 tf,.string ts,.slice tA tm tc,.int .i64 tn,.bool false,.int .u64 (ea:Nat)] 39 (0,0)) from HX4.out)
 open Q257 in exact M255):p:=h
theorem Q254.Y251 (h:p:=by
 cases tfl with
 | false=>
  have HN:Hid (Dc at' al ⟨4,id,en,ea,name,text,ev⟩ s=none):=U (by simp[Dc,HG.out, ])
  exact M28
 | true=>
  by_cases h2:tn=en
  rotate_left
  ·have HN : Hid (Dc at' al ⟨4, id, en, ea, name, text, ev⟩ s = none) := U (by simp [Dc, HG.out, h2])
   exact M180
  subst h2
  go_quiet (fail)
  generalize hw2:w1.drewN nq=w2 at *
  have HQ2:Hid (Below W1.heap.size W1 w2):=U (by rw[<-hw2];exact below_drewN HQ1.out nq)
  clear hw2
  clear x0 x1 x2 x3 x4 x5 x6 y0 y1 y2 e0 e1 e2 e3 e4 e5 e6 e7 e8 e9 e10
  clear t0 t1 t2 t3 t4 t5 t6 t7 t8 t9
  obtain⟨x0,x1,x2,x3,x4,x5,x6,xf⟩:=(HX.out w2 HQ2.out).1.cells
  obtain⟨y0,y1,y2,-⟩:=(HX.out w2 HQ2.out).2.1.cells
  obtain⟨e0,e1,e2,e3,e4,e5,e6,e7,e8,e9,e10⟩:=EBox.cells (HX.out w2 HQ2.out).2.2.2
  dsimp only at e0 e1 e2 e3 e4 e5
  obtain⟨t0,t1,t2,t3,t4,t5,t6,t7,t8,t9⟩:=HTC.out w2 HQ2.out
  obtain⟨W3,hW3⟩:=Rm (w2.alloc (.cells #[.int .u64 (tid:Nat),.string tname,.int .i64 tk,.int .i64 tn',.float .f64 tf,.string ts,.slice tA tm tc,.int .i64 tn,.bool true,.int .u64 (tat:Nat)] 39))
  have hb3:Below W1.heap.size W1 W3:=by rw[hW3];exact HQ2.out.alloc HQ2.out.size _
  have hx3:W3.heap[w2.heap.size]?=some (.cells #[.int .u64 (tid:Nat),.string tname,.int .i64 tk,.int .i64 tn',.float .f64 tf,.string ts,.slice tA tm tc,.int .i64 tn,.bool true,.int .u64 (tat:Nat)] 39 (0,0)):=by rw[hW3];exact heap_alloc_new ..
  have hz3:W3.heap.size=w2.heap.size+1:=by rw[hW3];simp
  have hz2:=HQ2.out.size
  have hS1:=HS1.out
  obtain⟨c0,c1,c2,c3,c4,c5,c6,c7,c8,c9,cf⟩:=Fc hx3
  have HB3:=U hb3;have HX3:=U hx3;have HZ3:=U hz3;have HZ2:=U hz2
  have cf7:=cf 7;have cf8:=cf 8;have cf9:=cf 9
  clear hb3 hx3 hz3 hz2 hS1 cf
  replace hW3:=U hW3
  go_upto_region 18 with fail
  rw[<-hW3.out]
  clear t0 t1 t2 t3 t4 t5 t6 t7 t8 t9
  clear x0 x1 x2 x3 x4 x5 x6 y0 y1 y2 e0 e1 e2 e3 e4 e5 e6 e7 e8 e9 e10
  obtain⟨x0,x1,x2,x3,x4,x5,x6,xf⟩:=(HX.out W3 HB3.out).1.cells
  obtain⟨y0,y1,y2,-⟩:=(HX.out W3 HB3.out).2.1.cells
  obtain⟨e0,e1,e2,e3,e4,e5,e6,e7,e8,e9,e10⟩:=EBox.cells (HX.out W3 HB3.out).2.2.2
  dsimp only at e0 e1 e2 e3 e4 e5
  go_upto_region 20 with fail
  obtain⟨W4,hW4⟩:=Rm ((W3.setCell ⟨w2.heap.size,8,none⟩ (.bool false)).setCell ⟨w2.heap.size,9,none⟩ (.int .u64 (ea:Nat)))
  rw[<-hW4]
  by_cases h5:ea=0
  ·have HN : Hid (Dc at' al ⟨4, id, tn, ea, name, text, ev⟩ s = some { s with tasks := GV s.tasks id }) := U (by simp [Dc, HG.out, h5])
   exact M17
  ·have k5 : ((ea : Int) == 0) = false := by simp; omega
   have k5':((ea:Int) != 0)=true:=by simp;omega
   by_cases h4:at'<=ea
   rotate_left
   ·have HN : Hid (Dc at' al ⟨4, id, tn, ea, name, text, ev⟩ s = none) := U (by simp [Dc, HG.out, h5, h4])
    have k4:decide ((at':Int)<=(ea:Int))=false:=decide_eq_false O0
    have k4':decide ((ea:Int)<(at':Int))=true:=decide_eq_true O0
    have h4n:ea<at':=O0
    exact M64
   have k4:decide ((at':Int)<=(ea:Int))=true:=decide_eq_true O0
   have k4':decide ((ea:Int)<(at':Int))=false:=decide_eq_false O0
   cases al with
   | false=>
    have HN:Hid (Dc at' false ⟨4,id,tn,ea,name,text,ev⟩ s=none):=U (by simp[Dc,HG.out,h5,h4])
    exact M64
   | true=>
    have HN:Hid (Dc at' true ⟨4,id,tn,ea,name,text,ev⟩ s=some {s with tasks:=FN s.tasks ⟨tid,tname,tv,tn,false,ea⟩}):=U (by simp[Dc,HG.out,h5,h4])
    open Q647 in exact M645):p:=h
theorem Q431.Y428 (h:p:=by
 rcases HTI.out with ⟨hm1',hg⟩|⟨i,hi,hi',hid',hg⟩
 ·subst hm1'
  have HN:Hid (Dc at' al ⟨4,id,en,ea,name,text,ev⟩ s=none):=U (by simp[Dc,hg])
  exact M33
 ·open Q254 in exact M251):p:=h
theorem Q229.Y226 (h:p:=by
 open Q431 in exact M428):p:=h
theorem Q236.Y232 (h:p:=by
 have HX:Hid (∀W,Below W1.heap.size W1 W->RX W w.heap.size f (.slice Bu nu cu) s.closed s.next (.slice Ak nk ck) (.slice Aq nt ct) (.slice Am nm cm)/\BB W (w.heap.size+1) ff at' (some ⟨eb,eo,none⟩) m cap/\RX W (w.heap.size+1+1) ⟨#[]⟩ (.slice none 0 0) 0 0 (.slice none 0 0) (.slice none 0 0) (.slice none 0 0)/\EBox W (w.heap.size+3) (Db ⟨4,id,en,ea,name,text,ev⟩ vk vn vf vs A0 m0 c0)):=U fun W hW=>by
  exact M48
 open Q229 in exact M226):p:=h
theorem Q314.Y310 (h:p:=by
 obtain⟨W1,hW1⟩:=Rm (W0.alloc (.cells (Db ⟨4,id,en,ea,name,text,ev⟩ vk vn vf vs A0 m0 c0) 61))
 open Q236 in exact KQ):p:=h
theorem Q218.Y215 (h:p:=by
 obtain rfl:k=4:=hk
 open Q314 in exact KN):p:=h
theorem out4_any (s:ST)(f:ByteArray)(Bu:Option Addr)(nu cu:Nat)(uk ut um:Value)(b:BT)(A:Option Addr)(cap:Nat)(w:World)(h:OIn X w s uk ut um b A cap)(hp:0<b.es.length)(he:FW (b.es[0]'hp))(hk:b.es[0].k=4) :
  Calls Tryz.prog 81 #[.agg (rhC f (.slice Bu nu cu) s.closed s.next uk ut um),.agg #[.string b.flow,.int .u64 (b.at':Nat),.slice A b.es.length cap]] w (PT X w f (.slice Bu nu cu) (Dc b.at' (decide (b.es.length=1)) (b.es[0]'hp) s)):=by
 open Q218 in exact Rj
theorem M397 (h:p:=by
 intro vF cF hown hgr
 obtain⟨Ar,cr,rfl,hbr⟩:=DN hown
 have HOF:=U hown;have HBRF:=U hbr
 have HBF:Hid (Below u0.heap.size u0 cF):=U (Dg HB01A.out hgr (fun r hr=>(own1_01A.out.lt r hr).1) HB01A.out.size)
 clear hown hgr hbr
 refine hK.out _ _ (HKS.out _ HBF.out) (fun hH01ABL=> ?_)
 clear hK K hH01AL
 try simp only[ap]
 exact Y397):p:=h
theorem M609 (h:p:=by
 go_simp
 refine hK.out _ _ (HKS2.out _ _ HBF.out) (fun hHeldZ=> ?_)
 clear hK K hH01ABL
 try simp only[ap]
 refine wpAnyH_done O2 ?_ _
 refine NoPanic.normal ?_
 exact Y609):p:=h
theorem Q290.Y286 (h:p:=by
 clear qf xf hx6 hq6 hbF1
 rw[<-hw6]
 clear hw6
 go_wp2_with fail
 refine bodyPost_ret (v:= .tuple #[.agg #[.string f,.slice Bu nu cu,.int .i64 s.closed,.int .u64 (s.next:Nat),.slice Ar (L+1) cr,.slice Aq nt ct,.slice Am nm cm],.bool true]) (by simp[results,Tryz.results81,go_sem,q0,q1,q2,q3,q4,q5,q6]) rfl ?_
 obtain⟨W7,hW7⟩:=Rm (((((((w6.setCell ⟨w.heap.size+1+1,0,none⟩ (.string f)).setCell ⟨w.heap.size+1+1,1,none⟩ (.slice Bu nu cu)).setCell ⟨w.heap.size+1+1,2,none⟩ (.int .i64 s.closed)).setCell ⟨w.heap.size+1+1,3,none⟩ (.int .u64 (s.next:Nat))).setCell ⟨w.heap.size+1+1,4,none⟩ (.slice Ar (L+1) cr)).setCell ⟨w.heap.size+1+1,5,none⟩ (.slice Aq nt ct)).setCell ⟨w.heap.size+1+1,6,none⟩ (.slice Am nm cm))
 rw[<-hW7]
 exact HOUT.out cF w6 W7 Ar cr HOF.out HBRF.out HBF.out HW6.out HB6.out hW7):p:=h
theorem Q611.Y609 (h:p:=by
 clear hHeldZ cx fx
 obtain⟨w6,hw6⟩:=Rm (cF.setCell ⟨w.heap.size,4,none⟩ (.slice Ar (L+1) cr))
 have hbF1:Below W1.heap.size W1 cF:=HBu1.out _ HBF.out
 have hx6:RX w6 w.heap.size f (.slice Bu nu cu) s.closed s.next (.slice Ar (L+1) cr) (.slice Aq nt ct) (.slice Am nm cm):=by rw[hw6];exact(HX.out cF hbF1).1.set4
 have hq6:RX w6 (w.heap.size+1+1) ⟨#[]⟩ (.slice none 0 0) 0 0 (.slice none 0 0) (.slice none 0 0) (.slice none 0 0):=by rw[hw6];exact(HX.out cF hbF1).2.2.1.far O0
 have HB6:Hid (Below w.heap.size w w6):=U (by rw[hw6];exact(HBW.out cF hbF1).setCell (p:=⟨w.heap.size,4,none⟩) (Nat.le_refl _) _)
 have HW6:=U hw6
 obtain⟨x0,x1,x2,x3,x4,x5,x6,xf⟩:=hx6.cells
 obtain⟨q0,q1,q2,q3,q4,q5,q6,qf⟩:=hq6.cells
 open Q290 in exact OT):p:=h
theorem Q398.Y397 (h:p:=by
 refine tk 8 rfl ?_
 obtain⟨cx,fx⟩:=HCX.out cF HBF.out
 refine rd1 9 rfl fun K hK=> ?_
 open Q611 in exact M609):p:=h
theorem M5 (h:p:=by
 try simp only[ap]
 refine rd1 7 rfl fun K hK=> ?_
 refine Dd zw01A rfl _ _ 81 9 rfl i0 _ 1 16 Tryz.underlying81 HSZ.out hi0 hz0 hz1 hz2 rfl O1 u0.heap.size v1 (.slice (some ⟨ib,0,none⟩) 1 1) L 1 xs #[Value.string text].toList rfl rfl own1_01A.out one_01A.out (by simp only[maxLen];omega) O0 HB01A.out.size ?_
 open Q398 in exact M397):p:=h
theorem M392 (h:p:=by
 intro v1 zw01A hown hgr
 have HB01A:Hid (Below u0.heap.size u0 zw01A):=U (Dg HB01.out hgr (fun r hr=>(own0_01.out.lt r hr).1) HB01.out.size)
 rw[Nat.zero_add,List.nil_append] at hown
 have own1_01A:=U hown
 have one_01A:=U (CIn.grown one_01.out hgr (fun e=>HNE.out (Option.some.inj e)))
 clear hown hgr
 refine hK.out _ _ (HKS.out _ HB01A.out) (fun hH01AL=> ?_)
 exact Y392):p:=h
theorem M530 (h:p:=by
 intro v1 zw0A hown hgr
 have HB0A:Hid (Below u0.heap.size u0 zw0A):=U (Dg HB0.out hgr (fun r hr=>(own0_0.out.lt r hr).1) HB0.out.size)
 rw[Nat.zero_add,List.nil_append] at hown
 have own1_0A:=U hown
 clear hown hgr
 exact Y530):p:=h
theorem Q533.Y530 (h:p:=by
 refine hK.out _ _ (HKS.out _ HB0A.out) (fun hH0AL=> ?_)
 clear hK K hH0L
 try simp only[ap]
 exact Y361):p:=h
theorem Ri (h:p:=by
 open Q533 in exact M530):p:=h
theorem Jt (h:p:=by
 rw[<-hc01]
 obtain⟨ib,hib⟩:∃i,i=zw0.heap.size:=⟨_,rfl⟩
 rw[<-hib]
 have hbz:Below zw0.heap.size zw0 zw01:=by rw[hc01];exact Rl
 have HB01:Hid (Below u0.heap.size u0 zw01):=U (HB0.out.trans (hbz.mono HB0.out.size))
 exact Y329):p:=h
theorem M414 (h:p:=by
 rw[<-hc01A]
 obtain⟨ib,hib⟩:∃i,i=zw0A.heap.size:=⟨_,rfl⟩
 rw[<-hib]
 have hbz:Below zw0A.heap.size zw0A zw01A:=by rw[hc01A];exact Rl
 have HB01A:Hid (Below u0.heap.size u0 zw01A):=U (HB0A.out.trans (hbz.mono HB0A.out.size))
 exact Y414):p:=h
theorem M584 (h:p:=by
 have own1_01A:=U (Fg own1_0A.out hbz)
 clear hbz
 replace hc01A:=U hc01A
 replace hib:=U hib
 refine hK.out _ _ (HKS.out _ HB01A.out) (fun hH01AL=> ?_)
 exact Y584):p:=h
theorem Jr (h:p:=by
 have HNE:Hid (ib≠ia):=U (by have q:=(own0_0.out.lt ia rfl).2;omega)
 have own0_01:=U (Fg own0_0.out hbz)
 clear hbz
 replace hc01:=U hc01
 replace hib:=U hib
 exact Y419):p:=h
theorem Q393.Y392 (h:p:=by
 clear hK K hH01L
 exact M5):p:=h
theorem M23 (h:p:=by
 refine rd1 3 rfl fun K hK=> ?_
 refine Dd zw01 rfl _ _ 81 9 rfl i0 _ 1 16 Tryz.underlying81 HSZ.out hi0 hz0 hz1 hz2 rfl O1 u0.heap.size (.slice (some ⟨ia,0,none⟩) 0 0) (.slice Ak L ck) 0 L [] xs rfl rfl own0_01.out (HIN.out _ HB01.out) (by simp only[maxLen];omega) O0 HB01.out.size ?_
 open Q393 in exact M392):p:=h
theorem Q585.Y584 (h:p:=by
 clear hK K hH0AL
 exact M5):p:=h
theorem Q415.Y414 (h:p:=by
 have one_01A:Hid (CIn zw01A (.slice (some ⟨ib,0,none⟩) 1 1) 1 1 #[Value.string text].toList):=U (by rw[hc01A,hib];exact CIn.new zw0A _ _ rfl HONE.out)
 open Q585 in exact M584):p:=h
theorem Q362.Y361 (h:p:=by
 refine rd1 6 rfl fun K hK=> ?_
 go_simp
 obtain⟨zw01A,hc01A⟩:∃u,u=zw0A.alloc (.cells #[Value.string text] 9):=⟨_,rfl⟩
 open Q415 in exact M414):p:=h
theorem Q420.Y419 (h:p:=by
 refine hK.out _ _ (HKS.out _ HB01.out) (fun hH01L=> ?_)
 clear hK K hH0L
 try simp only[ap]
 exact M23):p:=h
theorem Q330.Y329 (h:p:=by
 have one_01:Hid (CIn zw01 (.slice (some ⟨ib,0,none⟩) 1 1) 1 1 #[Value.string text].toList):=U (by rw[hc01,hib];exact CIn.new zw0 _ _ rfl HONE.out)
 open Q420 in exact Jr):p:=h
theorem M31 (h:p:=by
 refine rd2 3 6 rfl rfl (fun K hK=> ?_) fun K hK=> ?_
 ·refine Dd zw0 rfl _ _ 81 9 rfl i0 _ 1 16 Tryz.underlying81 HSZ.out hi0 hz0 hz1 hz2 rfl O1 u0.heap.size (.slice (some ⟨ia, 0, none⟩) 0 0) (.slice Ak L ck) 0 L [] xs rfl rfl own0_0.out (HIN.out _ HB0.out) (by simp only [maxLen]; omega) O0 HB0.out.size ?_
  open Q362 in exact Ri
 ·go_simp
  obtain⟨zw01,hc01⟩:∃u,u=zw0.alloc (.cells #[Value.string text] 9):=⟨_,rfl⟩
  open Q330 in exact Jt):p:=h
theorem M380 (h:p:=by
 rw[<-hc01]
 obtain⟨ia,hia⟩:∃i,i=zw1.heap.size:=⟨_,rfl⟩
 rw[<-hia]
 have hbz:Below zw1.heap.size zw1 zw01:=by rw[hc01];exact Rl
 have HB01:Hid (Below u0.heap.size u0 zw01):=U (HB1.out.trans (hbz.mono HB1.out.size))
 exact Y380):p:=h
theorem M502 (h:p:=by
 have HNE:Hid (ib≠ia):=U (by have q:ib<zw1.heap.size:=one_1.out.lt;omega)
 have one_01:=U (CIn.later one_1.out hbz)
 clear hbz
 replace hc01:=U hc01
 exact Y502):p:=h
theorem Q503.Y502 (h:p:=by
 replace hia:=U hia
 refine hK.out _ _ (HKS.out _ HB01.out) (fun hH01L=> ?_)
 clear hK K hH1L
 try simp only[ap]
 exact M23):p:=h
theorem Q381.Y380 (h:p:=by
 have own0_01:Hid (zw01.ownsRow u0.heap.size 9 1 (.slice (some ⟨ia,0,none⟩) 0 0) 0 []):=U (by rw[hc01,hia];exact World.ownsRow_lit zw1 #[] 0 HB1.out.size (Nat.zero_le _) O3)
 open Q503 in exact M502):p:=h
theorem M68 (h:p:=by
 refine rd1 0 rfl fun K hK=> ?_
 go_simp
 obtain⟨zw01,hc01⟩:∃u,u=zw1.alloc (.cells #[] 9):=⟨_,rfl⟩
 open Q381 in exact M380):p:=h
theorem KP (h:p:=by
 rw[<-hc0]
 obtain⟨ia,hia⟩:∃i,i=u0.heap.size:=⟨_,rfl⟩
 rw[<-hia]
 have hbz:Below u0.heap.size u0 zw0:=by rw[hc0];exact Rl
 have HB0:Hid (Below u0.heap.size u0 zw0):=U (HBu.out.trans (hbz.mono HBu.out.size))
 exact Y264):p:=h
theorem M104 (h:p:=by
 rw[<-hu0];exact HKS.out _ (Below.refl _ _)):p:=h
theorem M544 (h:p:=by
 try simp only[ap]
 refine rd1 2 rfl fun K hK=> ?_
 obtain⟨cx,-⟩:=HCX.out zw01 HB01.out
 go_simp
 refine hK.out _ _ (HKS.out _ HB01.out) (fun hH01L=> ?_)
 clear hK K hH01
 try simp only[ap]
 exact Y544):p:=h
theorem Q545.Y544 (h:p:=by
 clear cx
 exact M23):p:=h
theorem M123 (h:p:=by
 open Q545 in exact M544):p:=h
theorem M534 (h:p:=by
 have HBu1:Hid (∀W,Below u0.heap.size u0 W->Below W1.heap.size W1 W):=U fun W hW=>by rw[hu0] at hW;exact(Da HQ2.out).trans (hW.mono (Da HQ2.out).size)
 have HBu0:Hid (W1.heap.size<=u0.heap.size):=U (by rw[hu0];exact(Da HQ2.out).size)
 have HBu:Hid (Below u0.heap.size u0 u0):=U (Below.refl _ _)
 have HKS:Hid (∀W,Below u0.heap.size u0 W->(fun W:World=>W.cell? ⟨w.heap.size+3,5,none⟩=some (.string text)) W):=U fun W hW=>(EBox.cells (HX.out W (HBu1.out W hW)).2.2.2).2.2.2.2.2.1
 exact Y534):p:=h
theorem M614 (h:p:=by
 refine wp_region_noPanic ?_
 refine wp_region_held_drew (S:=(fun W:World=>W.cell? ⟨w.heap.size+3,5,none⟩=some (.string text))) O2 ?_ (fun hHeld=> ?_)
 ·exact M104
 rw[<-hu0] at hHeld
 rw[<-hu0]
 replace hu0:=U hu0
 refine tk 1 rfl ?_
 exact Y614):p:=h
theorem Rh (h:p:=by
 obtain⟨cx,-⟩:=HCX.out u0 HBu.out
 go_simp
 refine hK.out _ _ (HKS.out _ HBu.out) (fun hHL=> ?_)
 clear hK K hHeld
 try simp only[ap]
 clear cx
 exact Y563):p:=h
theorem Js (h:p:=by
 rw[<-hc1]
 obtain⟨ib,hib⟩:∃i,i=u0.heap.size:=⟨_,rfl⟩
 rw[<-hib]
 have hbz:Below u0.heap.size u0 zw1:=by rw[hc1];exact Rl
 have HB1:Hid (Below u0.heap.size u0 zw1):=U (HBu.out.trans (hbz.mono HBu.out.size))
 exact Y352):p:=h
theorem M755 (h:p:=by
 have own0_0:Hid (zw0.ownsRow u0.heap.size 9 1 (.slice (some ⟨ia,0,none⟩) 0 0) 0 []):=U (by rw[hc0,hia];exact World.ownsRow_lit u0 #[] 0 HBu.out.size (Nat.zero_le _) O3)
 clear hbz
 replace hc0:=U hc0
 replace hia:=U hia
 exact Y755):p:=h
theorem Rg (h:p:=by
 obtain⟨cx,-⟩:=HCX.out zw0 HB0.out
 go_simp
 refine hK.out _ _ (HKS.out _ HB0.out) (fun hH0L=> ?_)
 clear hK K hH0
 try simp only[ap]
 exact Y595):p:=h
theorem Q596.Y595 (h:p:=by
 clear cx
 exact M31):p:=h
theorem Q421.Y419 (h:p:=by
 refine hK.out _ _ (HKS.out _ HB01.out) (fun hH01=> ?_)
 clear hK K hH0
 exact M123):p:=h
theorem Q331.Y329 (h:p:=by
 have one_01:Hid (CIn zw01 (.slice (some ⟨ib,0,none⟩) 1 1) 1 1 #[Value.string text].toList):=U (by rw[hc01,hib];exact CIn.new zw0 _ _ rfl HONE.out)
 open Q421 in exact Jr):p:=h
theorem Q756.Y755 (h:p:=by
 refine hK.out _ _ (HKS.out _ HB0.out) (fun hH0=> ?_)
 clear hK K hHeld
 try simp only[ap]
 refine rd2 2 6 rfl rfl (fun K hK=> ?_) fun K hK=> ?_
 ·open Q596 in exact Rg
 ·go_simp
  obtain⟨zw01,hc01⟩:∃u,u=zw0.alloc (.cells #[Value.string text] 9):=⟨_,rfl⟩
  open Q331 in exact Jt):p:=h
theorem Q265.Y264 (h:p:=by
 open Q756 in exact M755):p:=h
theorem Q757.Y755 (h:p:=by
 refine hK.out _ _ (HKS.out _ HB0.out) (fun hH0L=> ?_)
 clear hK K hHL
 try simp only[ap]
 exact M31):p:=h
theorem Q266.Y264 (h:p:=by
 open Q757 in exact M755):p:=h
theorem M742 (h:p:=by
 clear hbz
 replace hc1:=U hc1
 replace hib:=U hib
 refine hK.out _ _ (HKS.out _ HB1.out) (fun hH1L=> ?_)
 clear hK K hHL
 exact Y742):p:=h
theorem Q743.Y742 (h:p:=by
 try simp only[ap]
 exact M68):p:=h
theorem Q353.Y352 (h:p:=by
 have one_1:Hid (CIn zw1 (.slice (some ⟨ib,0,none⟩) 1 1) 1 1 #[Value.string text].toList):=U (by rw[hc1,hib];exact CIn.new u0 _ _ rfl HONE.out)
 open Q743 in exact M742):p:=h
theorem Q564.Y563 (h:p:=by
 refine rd2 0 6 rfl rfl (fun K hK=> ?_) fun K hK=> ?_
 ·go_simp
  obtain⟨zw0,hc0⟩:∃u,u=u0.alloc (.cells #[] 9):=⟨_,rfl⟩
  open Q266 in exact KP
 ·go_simp
  obtain⟨zw1,hc1⟩:∃u,u=u0.alloc (.cells #[Value.string text] 9):=⟨_,rfl⟩
  open Q353 in exact Js):p:=h
theorem M693 (h:p:=by
 clear hbz
 replace hc1:=U hc1
 replace hib:=U hib
 refine hK.out _ _ (HKS.out _ HB1.out) (fun hH1=> ?_)
 clear hK K hHeld
 try simp only[ap]
 exact Y693):p:=h
theorem M676 (h:p:=by
 obtain⟨cx,-⟩:=HCX.out zw1 HB1.out
 go_simp
 refine hK.out _ _ (HKS.out _ HB1.out) (fun hH1L=> ?_)
 clear hK K hH1
 try simp only[ap]
 exact Y676):p:=h
theorem Q504.Y502 (h:p:=by
 replace hia:=U hia
 refine hK.out _ _ (HKS.out _ HB01.out) (fun hH01=> ?_)
 clear hK K hH1
 exact M123):p:=h
theorem Q383.Y380 (h:p:=by
 have own0_01:Hid (zw01.ownsRow u0.heap.size 9 1 (.slice (some ⟨ia,0,none⟩) 0 0) 0 []):=U (by rw[hc01,hia];exact World.ownsRow_lit zw1 #[] 0 HB1.out.size (Nat.zero_le _) O3)
 open Q504 in exact M502):p:=h
theorem Q677.Y676 (h:p:=by
 clear cx
 exact M68):p:=h
theorem Q694.Y693 (h:p:=by
 refine rd2 0 2 rfl rfl (fun K hK=> ?_) fun K hK=> ?_
 ·go_simp
  obtain⟨zw01,hc01⟩:∃u,u=zw1.alloc (.cells #[] 9):=⟨_,rfl⟩
  open Q383 in exact M380
 ·open Q677 in exact M676):p:=h
theorem Q354.Y352 (h:p:=by
 have one_1:Hid (CIn zw1 (.slice (some ⟨ib,0,none⟩) 1 1) 1 1 #[Value.string text].toList):=U (by rw[hc1,hib];exact CIn.new u0 _ _ rfl HONE.out)
 open Q694 in exact M693):p:=h
theorem Q615.Y614 (h:p:=by
 refine tk 4 rfl ?_
 refine tk 5 rfl ?_
 refine wpAnyH_ready (rs:=[0,2,6]) O2 O3 ?_
 refine Dh rfl (fun K hK=> ?_) (Dh rfl (fun K hK=> ?_) (Dh rfl (fun K hK=> ?_) AllReadyH.nil))
 ·go_simp
  obtain⟨zw0,hc0⟩:∃u,u=u0.alloc (.cells #[] 9):=⟨_,rfl⟩
  open Q265 in exact KP
 ·open Q564 in exact Rh
 ·go_simp
  obtain⟨zw1,hc1⟩:∃u,u=u0.alloc (.cells #[Value.string text] 9):=⟨_,rfl⟩
  open Q354 in exact Js):p:=h
theorem Q535.Y534 (h:p:=by
 have HKS2:Hid (∀W v,Below u0.heap.size u0 W->(fun W:World=>W.cell? ⟨w.heap.size+3,5,none⟩=some (.string text)) (W.setCell ⟨w.heap.size,4,none⟩ v)):=U fun W v hW=>(World.cell?_of_block (a:=⟨w.heap.size+3,5,none⟩) (RowKit.Below.heap_setCell _ _ _ _ (by show w.heap.size+3≠w.heap.size;omega))).trans (HKS.out W hW)
 rw[<-hL] at hkc hn3 HX
 have HCX:Hid (∀W,Below u0.heap.size u0 W->W.cell? ⟨w.heap.size,4,none⟩=some (.slice Ak L ck)/\W.frozen? ⟨w.heap.size,4,none⟩=false):=U fun W hW=>⟨(HX.out W (HBu1.out W hW)).1.cells.2.2.2.2.1,(HX.out W (HBu1.out W hW)).1.cells.2.2.2.2.2.2.2 4⟩
 have HIN:Hid (∀W,Below u0.heap.size u0 W->CIn W (.slice Ak L ck) L 1 xs):=U fun W hW=>by rw[hL];exact HCI.out.later (HBW.out W (HBu1.out W hW))
 clear hL
 have HOUT:Hid (∀(cF w6 W7:World) (Ar:Option Addr) (cr:Nat),cF.ownsRow u0.heap.size 9 1 (.slice Ar (L+1) cr) (L+1) (xs++(#[Value.string text]:Array Value).toList)->(∀r,rowOf Ar=some r->u0.heap.size<=r)->Below u0.heap.size u0 cF->w6=cF.setCell ⟨w.heap.size,4,none⟩ (.slice Ar (L+1) cr)->Below w.heap.size w w6->
   W7=((((((w6.setCell ⟨w.heap.size+1+1,0,none⟩ (.string f)).setCell ⟨w.heap.size+1+1,1,none⟩ (.slice Bu nu cu)).setCell ⟨w.heap.size+1+1,2,none⟩ (.int .i64 s.closed)).setCell ⟨w.heap.size+1+1,3,none⟩ (.int .u64 (s.next:Nat))).setCell ⟨w.heap.size+1+1,4,none⟩ (.slice Ar (L+1) cr)).setCell ⟨w.heap.size+1+1,5,none⟩ (.slice Aq nt ct)).setCell ⟨w.heap.size+1+1,6,none⟩ (.slice Am nm cm)->
   PT X w f (.slice Bu nu cu) (Dc at' al ⟨6,id,en,ea,name,text,ev⟩ s) (.returned (.tuple #[.agg #[.string f,.slice Bu nu cu,.int .i64 s.closed,.int .u64 (s.next:Nat),.slice Ar (L+1) cr,.slice Aq nt ct,.slice Am nm cm],.bool true])) W7):=U fun cF w6 W7 Ar cr ho hbr hbF hw6 hb6 hW7=>by
  have hb7:Below w.heap.size w W7:=by rw[hW7];exact Fk (g:=w.heap.size+1+1) hb6 (Nat.le_succ_of_le (Nat.le_succ _)) _ _ _ _ _ _ _
  have hs:=HS1.out
  have hu:=HBu0.out
  have ho7:=Dx (w':=W7) ho (fun r hr=>by
   have:=hbr r hr
   rw[hW7,GR O0,hw6]
   exact RowKit.Below.heap_setCell _ _ _ _ (by show r≠w.heap.size;omega))
  refine⟨hb7,s.closed,s.next,.slice Ar (L+1) cr,.slice Aq nt ct,.slice Am nm cm,⟨_,_,_,rfl⟩,⟨_,_,_,rfl⟩,⟨_,_,_,rfl⟩,by rw[HN.out];rfl,fun s' hs=> ?_⟩
  rw[HN.out] at hs
  cases hs
  refine⟨rfl,rfl,⟨⟨xs++(#[Value.string text]:Array Value).toList,?_,?_⟩,(HRV.out.leads (Dt X hb7)).tasks,(HRV.out.leads (Dt X hb7)).timers⟩⟩
  ·have e : (s.keys ++ [text]).length = L + 1 := by rw [List.length_append, <- HLL.out]; rfl
   dsimp only
   rw[e]
   refine CIn.of_veil ho7 ?_ (by intro c hc;have:=HXB.out c hc;have:=HBu0.out;have:=HS1.out;omega)
   intro x hx
   rcases List.mem_append.1 hx with q|q
   ·exact HCI.out.2.1 x q
   ·exact HONE.out x q
  ·refine ⟨by rw [HST.out.1]; simp, fun k hk => ?_⟩
   rcases List.mem_append.1 hk with q|q
   ·exact HST.out.2 k q
   ·rw[List.mem_singleton.1 q];exact HE.out.f.t1
 clear x0 x1 x2 x3 x4 x5 x6 y0 y1 y2 e0 e1 e2 e3 e4 e5 e6 e7 e8 e9 e10
 clear q0 q1 q2 q3 q4 q5 q6 qf0 qf1 qf2 qf3 qf4 qf5 qf6 xf
 open Q615 in exact M614):p:=h
theorem Q561.Y560 (h:p:=by
 clear ez y
 go_upto_region 32 with (go_at_call 113;refine HTK.out.mono ?_;rintro x w1 ⟨⟨ti,rfl,hti⟩,hq1⟩;have HTI:=U (Uc HFI.out.tasks hti);have HQ1:=U hq1;clear hti hq1 x0 x1 x2 x3 x4 x5 x6 e0 e1 e2 e3 e4 e5 e6 e7 e8 e9 e10;obtain⟨x0,x1,x2,x3,x4,x5,x6,-⟩:=(HX.out w1 HQ1.out).1.cells;obtain⟨y0,y1,y2,-⟩:=(HX.out w1 HQ1.out).2.1.cells;obtain⟨e0,e1,e2,e3,e4,e5,e6,e7,e8,e9,e10⟩:=EBox.cells (HX.out w1 HQ1.out).2.2.2;dsimp only at e0 e1 e2 e3 e4 e5)
 cases hk with
 | true=>
  have HN:Hid (Dc at' al ⟨6,id,en,ea,name,text,ev⟩ s=none):=U (by simp[Dc, <-HHK.out])
  go_wp2_with (go_at_call 115;refine(HHS.out w1 HQ1.out).mono ?_;rintro x w2 ⟨rfl,hq2⟩;have HQ2:=U (HQ1.out.trans (hq2.mono HQ1.out.size));clear hq2 x0 x1 x2 x3 x4 x5 x6 y0 y1 y2 e0 e1 e2 e3 e4 e5 e6 e7 e8 e9 e10;obtain⟨x0,x1,x2,x3,x4,x5,x6,xf⟩:=(HX.out w2 HQ2.out).1.cells;obtain⟨y0,y1,y2,-⟩:=(HX.out w2 HQ2.out).2.1.cells;obtain⟨e0,e1,e2,e3,e4,e5,e6,e7,e8,e9,e10⟩:=EBox.cells (HX.out w2 HQ2.out).2.2.2;dsimp only at e0 e1 e2 e3 e4 e5;obtain⟨q0,q1,q2,q3,q4,q5,q6,qf⟩:=(HX.out w2 HQ2.out).2.2.1.cells;rw[show ((0:Nat):Int)=0 from rfl] at q3;have qf0:=qf 0;have qf1:=qf 1;have qf2:=qf 2;have qf3:=qf 3;have qf4:=qf 4;have qf5:=qf 5;have qf6:=qf 6;clear qf)
  exact M81
 | false=>
  have HN:Hid (Dc at' al ⟨6,id,en,ea,name,text,ev⟩ s=some {s with keys:=s.keys++ [text]}):=U (by simp[Dc, <-HHK.out])
  obtain⟨xs,hcinV,hst⟩:=HRV.out.keys
  have hcin:=hcinV.leads (Df X w)
  clear hcinV
  have HCI:=U hcin;have HST:=U hst
  obtain⟨rfl,hkc⟩:nk=s.keys.length/\s.keys.length<=ck:=by obtain⟨-,-,A9,cap9,heq9,hle9,-,-⟩:=hcin;injection heq9 with a1 a2 a3;exact⟨a2,by rw[a3];exact hle9⟩
  obtain⟨i0,hi0,hz0,hz1,hz2⟩:=info_parts Tryz.infoStr
  have HSZ:=U (Od hi0 hz1)
  have HONE:Hid (∀x∈(#[Value.string text]:Array Value).toList,x.oneCell'=true):=U (by intro x hx;simp at hx;subst hx;rfl)
  clear hcin hst
  go_upto_region 34 with (go_at_call 115;refine(HHS.out w1 HQ1.out).mono ?_;rintro x w2 ⟨rfl,hq2⟩;have HQ2:=U (HQ1.out.trans (hq2.mono HQ1.out.size));clear hq2 x0 x1 x2 x3 x4 x5 x6 y0 y1 y2 e0 e1 e2 e3 e4 e5 e6 e7 e8 e9 e10;obtain⟨x0,x1,x2,x3,x4,x5,x6,xf⟩:=(HX.out w2 HQ2.out).1.cells;obtain⟨y0,y1,y2,-⟩:=(HX.out w2 HQ2.out).2.1.cells;obtain⟨e0,e1,e2,e3,e4,e5,e6,e7,e8,e9,e10⟩:=EBox.cells (HX.out w2 HQ2.out).2.2.2;dsimp only at e0 e1 e2 e3 e4 e5;obtain⟨q0,q1,q2,q3,q4,q5,q6,qf⟩:=(HX.out w2 HQ2.out).2.2.1.cells;rw[show ((0:Nat):Int)=0 from rfl] at q3;have qf0:=qf 0;have qf1:=qf 1;have qf2:=qf 2;have qf3:=qf 3;have qf4:=qf 4;have qf5:=qf 5;have qf6:=qf 6;clear qf)
  obtain⟨u0,hu0⟩:∃u,u=w2.drew:=⟨_,rfl⟩
  obtain⟨L,hL⟩:=Rm (s.keys.length)
  have HLL:=U hL
  open Q535 in exact M534):p:=h
theorem Q375.Y374 (h:p:=by
 obtain⟨hk,hhk⟩:=Rm (OG s.keys text)
 have HHK:=U hhk
 have HHS:Hid (∀W,Below W1.heap.size W1 W->Calls Tryz.prog 115 #[.agg #[.string f,.slice Bu nu cu,.int .i64 s.closed,.int .u64 (s.next:Nat),.slice Ak nk ck,.slice Aq nt ct,.slice Am nm cm],.string text] W fun r w'=>r= .returned (.bool hk)/\Below W.heap.size W w'):=U fun W hW=>by rw[hhk];exact rhas_any s.keys text HE.out.f.t1 f (.slice Bu nu cu) (.slice Ak nk ck) (.slice Aq nt ct) (.slice Am nm cm) s.closed s.next W ((HRS.out.later (HBW.out W hW)).keys)
 clear hhk
 open Q561 in exact M560):p:=h
theorem Q237.Y232 (h:p:=by
 have HX:Hid (∀W,Below W1.heap.size W1 W->RX W w.heap.size f (.slice Bu nu cu) s.closed s.next (.slice Ak nk ck) (.slice Aq nt ct) (.slice Am nm cm)/\BB W (w.heap.size+1) ff at' (some ⟨eb,eo,none⟩) m cap/\RX W (w.heap.size+1+1) ⟨#[]⟩ (.slice none 0 0) 0 0 (.slice none 0 0) (.slice none 0 0) (.slice none 0 0)/\EBox W (w.heap.size+3) (Db ⟨6,id,en,ea,name,text,ev⟩ vk vn vf vs A0 m0 c0)):=U fun W hW=>by
  exact M48
 open Q375 in exact M374):p:=h
theorem Q315.Y310 (h:p:=by
 obtain⟨W1,hW1⟩:=Rm (W0.alloc (.cells (Db ⟨6,id,en,ea,name,text,ev⟩ vk vn vf vs A0 m0 c0) 61))
 open Q237 in exact KQ):p:=h
theorem Q219.Y215 (h:p:=by
 obtain rfl:k=6:=hk
 open Q315 in exact KN):p:=h
theorem out6_any (s:ST)(f:ByteArray)(Bu:Option Addr)(nu cu:Nat)(uk ut um:Value)(b:BT)(A:Option Addr)(cap:Nat)(w:World)(h:OIn X w s uk ut um b A cap)(hp:0<b.es.length)(he:FW (b.es[0]'hp))(hk:b.es[0].k=6) :
  Calls Tryz.prog 81 #[.agg (rhC f (.slice Bu nu cu) s.closed s.next uk ut um),.agg #[.string b.flow,.int .u64 (b.at':Nat),.slice A b.es.length cap]] w (PT X w f (.slice Bu nu cu) (Dc b.at' (decide (b.es.length=1)) (b.es[0]'hp) s)):=by
 open Q219 in exact Rj
theorem Q304.Y286 (h:p:=by
 clear qf
 go_wp2_with fail
 refine bodyPost_ret (v:= .tuple #[.agg #[.string f,.slice Bu nu cu,.int .i64 s.closed,.int .u64 (s.next:Nat),.slice Ak nk ck,.slice Aq nt ct,.slice Am nm cm],.bool true]) (by simp[results,Tryz.results81,go_sem,q0,q1,q2,q3,q4,q5,q6]) rfl ?_
 have HN:Hid (Dc at' al ⟨1,id,en,ea,name,text,ev⟩ s=some s):=U (by simp[Dc])
 obtain⟨W7,hW7⟩:=Rm (((((((w1.setCell ⟨w.heap.size+1+1,0,none⟩ (.string f)).setCell ⟨w.heap.size+1+1,1,none⟩ (.slice Bu nu cu)).setCell ⟨w.heap.size+1+1,2,none⟩ (.int .i64 s.closed)).setCell ⟨w.heap.size+1+1,3,none⟩ (.int .u64 (s.next:Nat))).setCell ⟨w.heap.size+1+1,4,none⟩ (.slice Ak nk ck)).setCell ⟨w.heap.size+1+1,5,none⟩ (.slice Aq nt ct)).setCell ⟨w.heap.size+1+1,6,none⟩ (.slice Am nm cm))
 rw[<-hW7]
 have hb7:Below w.heap.size w W7:=by rw[hW7];exact Fk (g:=w.heap.size+1+1) (HBW.out w1 HQ1.out) (Nat.le_succ_of_le (Nat.le_succ _)) _ _ _ _ _ _ _
 refine⟨hb7,s.closed,s.next,.slice Ak nk ck,.slice Aq nt ct,.slice Am nm cm,⟨_,_,_,rfl⟩,⟨_,_,_,rfl⟩,⟨_,_,_,rfl⟩,by rw[HN.out];rfl,fun s' hs=> ?_⟩
 rw[HN.out] at hs
 cases hs
 exact⟨rfl,rfl,HRV.out.leads (Dt X hb7)⟩):p:=h
theorem Q230.Y226 (h:p:=by
 go_upto_region 35 with (go_at_call 113;refine HTK.out.mono ?_;rintro x w1 ⟨⟨ti,rfl,hti⟩,hq1⟩;have HTI:=U (Uc HFI.out.tasks hti);have HQ1:=U hq1;clear hti hq1 x0 x1 x2 x3 x4 x5 x6 e0 e1 e2 e3 e4 e5 e6 e7 e8 e9 e10;obtain⟨x0,x1,x2,x3,x4,x5,x6,-⟩:=(HX.out w1 HQ1.out).1.cells;obtain⟨y0,y1,y2,-⟩:=(HX.out w1 HQ1.out).2.1.cells;obtain⟨e0,e1,e2,e3,e4,e5,e6,e7,e8,e9,e10⟩:=EBox.cells (HX.out w1 HQ1.out).2.2.2;dsimp only at e0 e1 e2 e3 e4 e5)
 obtain⟨q0,q1,q2,q3,q4,q5,q6,qf⟩:=(HX.out w1 HQ1.out).2.2.1.cells
 open Q304 in exact OT):p:=h
theorem Q238.Y232 (h:p:=by
 have HX:Hid (∀W,Below W1.heap.size W1 W->RX W w.heap.size f (.slice Bu nu cu) s.closed s.next (.slice Ak nk ck) (.slice Aq nt ct) (.slice Am nm cm)/\BB W (w.heap.size+1) ff at' (some ⟨eb,eo,none⟩) m cap/\RX W (w.heap.size+1+1) ⟨#[]⟩ (.slice none 0 0) 0 0 (.slice none 0 0) (.slice none 0 0) (.slice none 0 0)/\EBox W (w.heap.size+3) (Db ⟨1,id,en,ea,name,text,ev⟩ vk vn vf vs A0 m0 c0)):=U fun W hW=>by
  exact M48
 open Q230 in exact M226):p:=h
theorem Q316.Y310 (h:p:=by
 obtain⟨W1,hW1⟩:=Rm (W0.alloc (.cells (Db ⟨1,id,en,ea,name,text,ev⟩ vk vn vf vs A0 m0 c0) 61))
 open Q238 in exact KQ):p:=h
theorem Q220.Y215 (h:p:=by
 obtain rfl:k=1:=hk
 open Q316 in exact KN):p:=h
theorem out1_any (s:ST)(f:ByteArray)(Bu:Option Addr)(nu cu:Nat)(uk ut um:Value)(b:BT)(A:Option Addr)(cap:Nat)(w:World)(h:OIn X w s uk ut um b A cap)(hp:0<b.es.length)(he:FW (b.es[0]'hp))(hk:b.es[0].k=1) :
  Calls Tryz.prog 81 #[.agg (rhC f (.slice Bu nu cu) s.closed s.next uk ut um),.agg #[.string b.flow,.int .u64 (b.at':Nat),.slice A b.es.length cap]] w (PT X w f (.slice Bu nu cu) (Dc b.at' (decide (b.es.length=1)) (b.es[0]'hp) s)):=by
 open Q220 in exact Rj
theorem M660 (h:p:=by
 rw[show ((0:Nat):Int)=0 from rfl] at q3
 have qf0:=qf 0;have qf1:=qf 1;have qf2:=qf 2;have qf3:=qf 3;have qf4:=qf 4;have qf5:=qf 5;have qf6:=qf 6
 exact Y660):p:=h
theorem M729 (h:p:=by
 have hq8:RX w8 (w.heap.size+1+1) ⟨#[]⟩ (.slice none 0 0) 0 0 (.slice none 0 0) (.slice none 0 0) (.slice none 0 0):=by rw[hw8];exact HQ6.out
 have HB8:Hid (Below w.heap.size w w8):=U (by rw[hw8];exact Da HB6.out)
 have HW8:=U hw8
 exact Y729):p:=h
theorem M113 (h:p:=by
 rw[hal]
 by_cases q:i+1=m
 ·rw[decide_eq_true q,beq_iff_eq];omega
 ·exact M197):p:=h
theorem Q661.Y660 (h:p:=by
 clear qf hq8 hx6 hq6 hy6 ho6 hw6 x0 x1 x2 x3 x4 x5 x6 y2
 have kw:=IntWalk.i64_in ((m:Int)-1) O0
 refine wp_region_noPanic ?_
 refine wp_region_held_drew (S:=(fun W:World=>W.cell? ⟨w.heap.size,0,none⟩=some (.string f)/\W.cell? ⟨w.heap.size,1,none⟩=some (.slice Bu nu cu)/\W.cell? ⟨w.heap.size,2,none⟩=some (.int .i64 k)/\W.cell? ⟨w.heap.size,3,none⟩=some (.int .u64 (s.next:Nat))/\W.cell? ⟨w.heap.size,4,none⟩=some (.slice Ak nk ck)/\W.cell? ⟨w.heap.size,5,none⟩=some (.slice none 0 0)/\W.cell? ⟨w.heap.size,6,none⟩=some (.slice none 0 0)/\W.cell? ⟨w.heap.size+1,2,none⟩=some (.slice (some ⟨eb,eo,none⟩) m cap))) O2 ?_ (fun hHeld=> ?_)
 ·exact HS8.out _ rfl rfl
 rw[<-hw8] at hHeld
 rw[<-hw8]
 clear hw8
 refine tk 0 rfl ?_
 refine tk 1 rfl ?_
 refine tk 2 rfl ?_
 refine tk 3 rfl ?_
 refine tk 4 rfl ?_
 refine tk 5 rfl ?_
 refine tk 6 rfl ?_
 refine rd1 7 rfl fun K hK=> ?_
 go_simp
 refine hK.out _ _ (HS8.out _ (by rw[GR O0,HW8.out];rfl) (by rw[GR O0,HW8.out];rfl)) (fun hHeldY=> ?_)
 clear hK K hHeld
 try simp only[ap]
 refine tk 8 rfl ?_
 refine wpAnyH_done O2 ?_ _
 refine NoPanic.normal ?_
 clear hHeldY kw
 go_wp2_with fail
 refine bodyPost_ret (v:= .tuple #[.agg #[.string f,.slice Bu nu cu,.int .i64 k,.int .u64 (s.next:Nat),.slice Ak nk ck,.slice none 0 0,.slice none 0 0],.bool al]) (by simp[results,Tryz.results82,go_sem,q0,q1,q2,q3,q4,q5,q6]) rfl ?_
 have hb7:Below w.heap.size w (((((((w8.setCell ⟨w.heap.size+1+1,0,none⟩ (.string f)).setCell ⟨w.heap.size+1+1,1,none⟩ (.slice Bu nu cu)).setCell ⟨w.heap.size+1+1,2,none⟩ (.int .i64 k)).setCell ⟨w.heap.size+1+1,3,none⟩ (.int .u64 (s.next:Nat))).setCell ⟨w.heap.size+1+1,4,none⟩ (.slice Ak nk ck)).setCell ⟨w.heap.size+1+1,5,none⟩ (.slice none 0 0)).setCell ⟨w.heap.size+1+1,6,none⟩ (.slice none 0 0)):=Fk (g:=w.heap.size+1+1) HB8.out (Nat.le_succ_of_le (Nat.le_succ _)) _ _ _ _ _ _ _
 have hk9:=HK.out
 have hap:Dc at' al ⟨k,id,en,ea,name,text,ev⟩ s=if al=true then some {s with closed:=k,tasks:=[],timers:=[]} else none:=by
  unfold Dc
  simp only
  rw[if_neg O0,if_neg O0,if_neg O0,if_neg O0,if_neg O0,if_neg O0,if_pos O0]
 rw[hap]
 refine⟨hb7,k,s.next,.slice Ak nk ck,.slice none 0 0,.slice none 0 0,⟨_,_,_,rfl⟩,⟨_,_,_,rfl⟩,⟨_,_,_,rfl⟩,?_,fun s' hs=> ?_⟩
 ·cases al<;>simp[rhC]
 cases al with
 | false=>simp at hs
 | true=>
  simp at hs
  subst hs
  exact⟨rfl,rfl,⟨(HRV.out.leads (Dt X hb7)).keys,⟨[],CIn.nil _ 10,TkC.nil _⟩,⟨[],CIn.nil _ 2,rfl⟩⟩⟩):p:=h
theorem Q730.Y729 (h:p:=by
 obtain⟨q0,q1,q2,q3,q4,q5,q6,qf⟩:=hq8.cells
 open Q661 in exact M660):p:=h
theorem Q287.Y286 (h:p:=by
 clear qf
 have xf2:=xf 2;have xf5:=xf 5;have xf6:=xf 6
 go_upto_region 16 with fail
 obtain⟨w6,hw6⟩:=Rm (((W1.setCell ⟨w.heap.size,2,none⟩ (.int .i64 k)).setCell ⟨w.heap.size,5,none⟩ (.slice none 0 0)).setCell ⟨w.heap.size,6,none⟩ (.slice none 0 0))
 rw[<-hw6]
 have ho6:∀c,c≠w.heap.size->w6.heap[c]?=W1.heap[c]?:=fun c hc=>by
  rw[hw6];repeat rw[RowKit.Below.heap_setCell _ _ _ _ hc]
 have hx6:RX w6 w.heap.size f (.slice Bu nu cu) k s.next (.slice Ak nk ck) (.slice none 0 0) (.slice none 0 0):=by rw[hw6];exact(HX.out W1 (Below.refl _ _)).1.set2.set5.set6
 have hq6:RX w6 (w.heap.size+1+1) ⟨#[]⟩ (.slice none 0 0) 0 0 (.slice none 0 0) (.slice none 0 0) (.slice none 0 0):=(ho6 _ O0).trans (HX.out W1 (Below.refl _ _)).2.2.1
 have HB6:Hid (Below w.heap.size w w6):=U (by rw[hw6];exact(((HBW.out W1 (Below.refl _ _)).setCell (p:=⟨w.heap.size,2,none⟩) (Nat.le_refl _) _).setCell (p:=⟨w.heap.size,5,none⟩) (Nat.le_refl _) _).setCell (p:=⟨w.heap.size,6,none⟩) (Nat.le_refl _) _)
 have hy6:BB w6 (w.heap.size+1) ff at' (some ⟨eb,eo,none⟩) m cap:=(ho6 _ O0).trans (HX.out W1 (Below.refl _ _)).2.1
 have HQ6:=U hq6
 clear x0 x1 x2 x3 x4 x5 x6 xf xf2 xf5 xf6 y0 y1 y2 e0 e1 e2 e3 e4 e5 e6 e7 e8 e9 e10 q0 q1 q2 q3 q4 q5 q6 qf0 qf1 qf2 qf3 qf4 qf5 qf6
 obtain⟨x0,x1,x2,x3,x4,x5,x6,-⟩:=hx6.cells
 obtain⟨-,-,y2,-⟩:=BB.cells hy6
 obtain⟨w8,hw8⟩:=Rm (w6.drew)
 have HS8:Hid (∀W:World,W.heap[w.heap.size]?=w6.heap[w.heap.size]?->W.heap[w.heap.size+1]?=w6.heap[w.heap.size+1]?->(fun W:World=>W.cell? ⟨w.heap.size,0,none⟩=some (.string f)/\W.cell? ⟨w.heap.size,1,none⟩=some (.slice Bu nu cu)/\W.cell? ⟨w.heap.size,2,none⟩=some (.int .i64 k)/\W.cell? ⟨w.heap.size,3,none⟩=some (.int .u64 (s.next:Nat))/\W.cell? ⟨w.heap.size,4,none⟩=some (.slice Ak nk ck)/\W.cell? ⟨w.heap.size,5,none⟩=some (.slice none 0 0)/\W.cell? ⟨w.heap.size,6,none⟩=some (.slice none 0 0)/\W.cell? ⟨w.heap.size+1,2,none⟩=some (.slice (some ⟨eb,eo,none⟩) m cap)) W):=U fun W a1 a2=>⟨(World.cell?_of_block (a:=⟨w.heap.size,0,none⟩) a1).trans x0,(World.cell?_of_block (a:=⟨w.heap.size,1,none⟩) a1).trans x1,(World.cell?_of_block (a:=⟨w.heap.size,2,none⟩) a1).trans x2,(World.cell?_of_block (a:=⟨w.heap.size,3,none⟩) a1).trans x3,(World.cell?_of_block (a:=⟨w.heap.size,4,none⟩) a1).trans x4,(World.cell?_of_block (a:=⟨w.heap.size,5,none⟩) a1).trans x5,(World.cell?_of_block (a:=⟨w.heap.size,6,none⟩) a1).trans x6,(World.cell?_of_block (a:=⟨w.heap.size+1,2,none⟩) a2).trans y2⟩
 open Q730 in exact M729):p:=h
theorem Q771.Y769 (h:p:=by
 have e0:=(hb0.cell (p:=⟨eb,eo+i*11,none⟩) heb).trans z0
 have e1:=(hb0.cell (p:=⟨eb,eo+i*11+1,none⟩) heb).trans z1
 have e2:=(hb0.cell (p:=⟨eb,eo+i*11+2,none⟩) heb).trans z2
 have e3:=(hb0.cell (p:=⟨eb,eo+i*11+3,none⟩) heb).trans z3
 have e4:=(hb0.cell (p:=⟨eb,eo+i*11+4,none⟩) heb).trans z4
 have e5:=(hb0.cell (p:=⟨eb,eo+i*11+5,none⟩) heb).trans z5
 have e6:=(hb0.cell (p:=⟨eb,eo+i*11+6,none⟩) heb).trans z6
 have e7:=(hb0.cell (p:=⟨eb,eo+i*11+7,none⟩) heb).trans z7
 have e8:=(hb0.cell (p:=⟨eb,eo+i*11+8,none⟩) heb).trans z8
 have e9:=(hb0.cell (p:=⟨eb,eo+i*11+9,none⟩) heb).trans z9
 have e10:=(hb0.cell (p:=⟨eb,eo+i*11+10,none⟩) heb).trans z10
 have HREP:=U hrep;have HREPV:=U hrepV;have HHI:=U hhi
 unfold rhC at hW0 ⊢
 unfold Db at hW1
 dsimp only at hW1
 rw[show ((0:Nat):Int)=0 from rfl] at hW0
 have hWs:=U hs0
 clear hs0 hs1 hb0 hb1 hx0 hx1 hx2 z0 z1 z2 z3 z4 z5 z6 z7 z8 z9 z10 hrep hrepV hhi hff he heb
 replace hW0:=U hW0
 replace hW1:=U hW1
 obtain⟨al,hal⟩:=Rm (decide (i+1=m))
 have hm1:((i:Int)==(m:Int)-1)=al:=by
  exact M113
 rw[<-hal]
 have HAL:=U hal
 clear hal
 go_enter Tryz.func82,Tryz.ntmps82
 go_upto_region 1 with fail
 rw[<-hW0.out]
 go_upto_region 2 with fail
 rw[<-hW1.out]
 rw[show W0.heap.size=w.heap.size+3 from hWs.out]
 clear y0 y1 y2 e0 e1 e2 e3 e4 e5 e6 e7 e8 e9 e10
 clear x0 x1 x2 x3 x4 x5 x6
 obtain⟨x0,x1,x2,x3,x4,x5,x6,xf⟩:=(HX.out W1 (Below.refl _ _)).1.cells
 obtain⟨y0,y1,y2,-⟩:=(HX.out W1 (Below.refl _ _)).2.1.cells
 obtain⟨e0,e1,e2,e3,e4,e5,e6,e7,e8,e9,e10⟩:=EBox.cells (HX.out W1 (Below.refl _ _)).2.2.2
 dsimp only at e0 e1 e2 e3 e4 e5
 obtain⟨q0,q1,q2,q3,q4,q5,q6,qf⟩:=(HX.out W1 (Below.refl _ _)).2.2.1.cells
 open Q287 in exact OT):p:=h
theorem Q233.Y232 (h:p:=by
 have HX:Hid (∀W,Below W1.heap.size W1 W->RX W w.heap.size f (.slice Bu nu cu) s.closed s.next (.slice Ak nk ck) (.slice Aq nt ct) (.slice Am nm cm)/\BB W (w.heap.size+1) ff at' (some ⟨eb,eo,none⟩) m cap/\RX W (w.heap.size+1+1) ⟨#[]⟩ (.slice none 0 0) 0 0 (.slice none 0 0) (.slice none 0 0) (.slice none 0 0)/\EBox W (w.heap.size+3) (Db ⟨k,id,en,ea,name,text,ev⟩ vk vn vf vs A0 m0 c0)):=U fun W hW=>by
  exact M48
 have HBW:Hid (∀W,Below W1.heap.size W1 W->Below w.heap.size w W):=U fun W hW=>hb1.trans (hW.mono hb1.size)
 open Q771 in exact M769):p:=h
theorem Q311.Y310 (h:p:=by
 obtain⟨W1,hW1⟩:=Rm (W0.alloc (.cells (Db ⟨k,id,en,ea,name,text,ev⟩ vk vn vf vs A0 m0 c0) 61))
 open Q233 in exact KQ):p:=h
theorem Q686.Y684 (h:p:=by
 have hmp:i<m:=O0
 clear h hee hat hf0 hm hp
 obtain⟨k,id,en,ea,name,text,ev⟩:=e
 have hid:=he.f.i1
 dsimp only at hid hk hrep hrepV hff z0 z1 z2 z3 z4 z5 z6 z7 z8 z9 z10
 have hk7:(k==7)=false:=by simp;omega
 have hk8:(k==8)=false:=by simp;omega
 have HK:=U hk
 clear hk
 open Q311 in exact KN):p:=h
theorem Q529.Y527 (h:p:=by
 obtain⟨m,hm⟩:=Rm (b.es.length)
 obtain⟨ff,hf0⟩:=Rm (b.flow)
 obtain⟨at',hat⟩:∃at',at'=b.at':=⟨_,rfl⟩
 obtain⟨e,hee⟩:=Rm (b.es[i]'hp)
 open Q686 in exact M684):p:=h
theorem Q634.Y632 (h:p:=by
 obtain⟨eb,eo,lo0,hi0,vk,vn,vf,vs,A0,m0,c0,rfl,heb,hff,hrep,hhi,z0,z1,z2,z3,z4,z5,z6,z7,z8,z9,z10⟩:=h.evs.get i hp
 open Q529 in exact M527):p:=h
theorem cmd9_any (s:ST)(f:ByteArray)(Bu:Option Addr)(nu cu:Nat)(uk ut um:Value)(b:BT)(A:Option Addr)(cap:Nat)(w:World)(h:OIn X w s uk ut um b A cap)(i:Nat)(hp:i<b.es.length)(he:FW (b.es[i]'hp))(hk:9<=(b.es[i]'hp).k) :
  Calls Tryz.prog 82 #[.agg (rhC f (.slice Bu nu cu) s.closed s.next uk ut um),.agg #[.string b.flow,.int .u64 (b.at':Nat),.slice A b.es.length cap],.int .i64 (i:Nat)] w (PT X w f (.slice Bu nu cu) (Dc b.at' (decide (i+1=b.es.length)) (b.es[i]'hp) s)):=by
 open Q634 in exact M632
open Vt (Gy)
variable {v w w' : World}
theorem TkC.read {xs:List Value}{l:List TK}{A:Option Addr}{cap:Nat}(h:CIn w (.slice A l.length cap) l.length 10 xs)(k:TkC w xs l):TkIn w A cap l:=by
 obtain⟨h1,h2,A',c',h3,h4,h5,h6⟩:=h
 injection h3 with e1 e2 e3
 subst e1;subst e3
 refine⟨h4,h5,fun hp=> ?_⟩
 obtain⟨b,off,q1,q2,q3⟩:=h6 hp
 refine⟨b,off,q1,q2,fun i hi=> ?_⟩
 obtain⟨lo,hi2,k1,n,f,s,A',m,c,p1,p2,p3,p4⟩:=k.2 i hi
 refine⟨lo,hi2,k1,n,f,s,A',m,c,p1,p2,p3,fun q hq=> ?_⟩
 have e:=p4 q hq
 obtain⟨y,hy⟩:∃y,(DA l[i] k1 n f s A' m c)[q]?=some y:=⟨_,Array.getElem?_eq_getElem hq⟩
 rw[hy] at e ⊢
 rw[Nat.add_assoc]
 exact q3 _ _ e
theorem RTk.open {u:Value}{l:List TK}(h:RTk w u l):∃A cap,u= .slice A l.length cap/\TkIn w A cap l:=by
 obtain⟨xs,h1,h2⟩:=h
 have h1':=h1
 obtain⟨-,-,A,cap,rfl,-,-,-⟩:=h1
 exact⟨A,cap,rfl,TkC.read h1' h2⟩
end Hi
end Go.Proofs.YtaahfiopdoinkaaGreat
