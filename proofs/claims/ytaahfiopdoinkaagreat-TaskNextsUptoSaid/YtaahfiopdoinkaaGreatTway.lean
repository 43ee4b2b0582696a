/- The reference's outside: the reference's command: armed. -/
import Derived.Laws.Rows
import Derived.Laws.IdiomRangeMap
import Derived.Test.YtaahfiopdoinkaaGreatTwaq
import Derived.Test.YtaahfiopdoinkaaGreatTwaw
import Derived.Test.YtaahfiopdoinkaaGreatTwax
import Derived.Test.YtaahfiopdoinkaaGreatTwav
variable {p : Prop}
set_option linter.unusedVariables false
set_option linter.unusedSimpArgs false
open Go.RowKit
namespace Go.Proofs.YtaahfiopdoinkaaGreat
namespace Hi
open _root_.Go.Proofs.YtaahfiopdoinkaaGreat.Nm (Dk De)
open Vt (VT Rep Da DX DY)
open Ev (EV Dj Db Dn EBox take_drop tk ap rd1 rd2 Dh)
open Cm (rowOf EvsIn)
open Cn (BT BB BtsIn Gs)
variable {X X' Y Y' : Nat -> Prop} {u v w w' V V' : World} {hb bt bm bk n cap : Nat} {A : Option Addr} {h : HM}
theorem Q301.Y286 (h:p:=by
 clear qf hq8 x0 x1 x2 x3 x4 x5 x6 e0 e1 e2 e3 e4 e5 e6 e7 e8 e9 e10 y0 y1 y2
 refine wp_region_noPanic ?_
 refine wp_region_held_drew (S:=(fun W:World=>W.cell? ⟨w.heap.size,0,none⟩=some (.string f)/\W.cell? ⟨w.heap.size,1,none⟩=some (.slice Bu nu cu)/\W.cell? ⟨w.heap.size,2,none⟩=some (.int .i64 s.closed)/\W.cell? ⟨w.heap.size,3,none⟩=some (.int .u64 ((s.next:Int)+1))/\W.cell? ⟨w.heap.size,4,none⟩=some (.slice Ak nk ck)/\W.cell? ⟨w.heap.size,5,none⟩=some (.slice Aq nt ct)/\W.cell? ⟨w.heap.size,6,none⟩=some (.slice Ar (L+1) cr)/\W.cell? ⟨w.heap.size+3,3,none⟩=some (.int .u64 (ea:Nat))/\W.cell? ⟨w.heap.size+1,1,none⟩=some (.int .u64 (at':Nat)))) O2 ?_ (fun hHeld=> ?_)
 ·exact HS8.out _ rfl rfl rfl
 rw[<-hw8] at hHeld
 rw[<-hw8]
 clear hw8
 refine tk 0 rfl ?_
 refine tk 1 rfl ?_
 refine tk 2 rfl ?_
 refine tk 3 rfl ?_
 refine tk 4 rfl ?_
 refine tk 5 rfl ?_
 refine rd1 6 rfl fun K hK=> ?_
 go_simp
 refine hK.out _ _ (HS8.out _ (by rw[GR O0,HW8.out];rfl) (by rw[GR O0,HW8.out];rfl) (by rw[GR O0,HW8.out];rfl)) (fun hHeldY=> ?_)
 clear hK K hHeld
 try simp only[ap]
 refine tk 7 rfl ?_
 refine wpAnyH_done O2 ?_ _
 refine NoPanic.normal ?_
 clear hHeldY
 go_wp2_with fail
 exact Y258):p:=h
theorem Q731.Y729 (h:p:=by
 obtain⟨q0,q1,q2,q3,q4,q5,q6,qf⟩:=hq8.cells
 open Q301 in exact OT):p:=h
theorem M258 (h:p:=by
 clear q0 q1 q2 q3 q4 q5 q6 qf0 qf1 qf2 qf3 qf4 qf5 qf6
 go_upto_region 12 with fail
 obtain⟨w8,hw8⟩:=Rm (w6.drew)
 have HS8:Hid (∀W:World,W.heap[w.heap.size]?=w6.heap[w.heap.size]?->W.heap[w.heap.size+1]?=w6.heap[w.heap.size+1]?->W.heap[w.heap.size+3]?=w6.heap[w.heap.size+3]?->(fun W:World=>W.cell? ⟨w.heap.size,0,none⟩=some (.string f)/\W.cell? ⟨w.heap.size,1,none⟩=some (.slice Bu nu cu)/\W.cell? ⟨w.heap.size,2,none⟩=some (.int .i64 s.closed)/\W.cell? ⟨w.heap.size,3,none⟩=some (.int .u64 ((s.next:Int)+1))/\W.cell? ⟨w.heap.size,4,none⟩=some (.slice Ak nk ck)/\W.cell? ⟨w.heap.size,5,none⟩=some (.slice Aq nt ct)/\W.cell? ⟨w.heap.size,6,none⟩=some (.slice Ar (L+1) cr)/\W.cell? ⟨w.heap.size+3,3,none⟩=some (.int .u64 (ea:Nat))/\W.cell? ⟨w.heap.size+1,1,none⟩=some (.int .u64 (at':Nat))) W):=U fun W a1 a2 a3=>⟨(World.cell?_of_block (a:=⟨w.heap.size,0,none⟩) a1).trans x0,(World.cell?_of_block (a:=⟨w.heap.size,1,none⟩) a1).trans x1,(World.cell?_of_block (a:=⟨w.heap.size,2,none⟩) a1).trans x2,(World.cell?_of_block (a:=⟨w.heap.size,3,none⟩) a1).trans x3,(World.cell?_of_block (a:=⟨w.heap.size,4,none⟩) a1).trans x4,(World.cell?_of_block (a:=⟨w.heap.size,5,none⟩) a1).trans x5,(World.cell?_of_block (a:=⟨w.heap.size,6,none⟩) a1).trans x6,(World.cell?_of_block (a:=⟨w.heap.size+3,3,none⟩) a3).trans e3,(World.cell?_of_block (a:=⟨w.heap.size+1,1,none⟩) a2).trans y1⟩
 open Q731 in exact M729):p:=h
theorem M581 (h:p:=by
 obtain⟨W7,hW7⟩:=Rm (((((((w8.setCell ⟨w.heap.size+1+1,0,none⟩ (.string f)).setCell ⟨w.heap.size+1+1,1,none⟩ (.slice Bu nu cu)).setCell ⟨w.heap.size+1+1,2,none⟩ (.int .i64 s.closed)).setCell ⟨w.heap.size+1+1,3,none⟩ (.int .u64 ((s.next:Int)+1))).setCell ⟨w.heap.size+1+1,4,none⟩ (.slice Ak nk ck)).setCell ⟨w.heap.size+1+1,5,none⟩ (.slice Aq nt ct)).setCell ⟨w.heap.size+1+1,6,none⟩ (.slice Ar (L+1) cr))
 rw[<-hW7]
 exact Y581):p:=h
theorem Q583.Y581 (h:p:=by
 exact HOUT.out _ true cF W7 Ar cr (fun _=>rfl) rfl HN.out HOF.out HBRF.out HBF.out (by rw[hW7];exact Fk (g:=w.heap.size+1+1) HB8.out (Nat.le_succ_of_le (Nat.le_succ _)) _ _ _ _ _ _ _) (fun r h1 h2=>by rw[hW7,GR h2,HW8.out];show w6.heap[r]?=_;rw[HW6.out];exact RowKit.Below.heap_setCell _ _ _ _ h1)):p:=h
theorem Q260.Y258 (h:p:=by
 refine bodyPost_ret (v:= .tuple #[.agg #[.string f,.slice Bu nu cu,.int .i64 s.closed,.int .u64 ((s.next:Int)+1),.slice Ak nk ck,.slice Aq nt ct,.slice Ar (L+1) cr],.bool true]) (by simp[results,Tryz.results82,go_sem,q0,q1,q2,q3,q4,q5,q6]) rfl ?_
 open Q583 in exact M581):p:=h
theorem Q582.Y581 (h:p:=by
 exact HOUT.out _ false cF W7 Ar cr (fun _=>rfl) rfl HN.out HOF.out HBRF.out HBF.out (by rw[hW7];exact Fk (g:=w.heap.size+1+1) HB8.out (Nat.le_succ_of_le (Nat.le_succ _)) _ _ _ _ _ _ _) (fun r h1 h2=>by rw[hW7,GR h2,HW8.out];show w6.heap[r]?=_;rw[HW6.out];exact RowKit.Below.heap_setCell _ _ _ _ h1)):p:=h
theorem Q259.Y258 (h:p:=by
 refine bodyPost_ret (v:= .tuple #[.agg #[.string f,.slice Bu nu cu,.int .i64 s.closed,.int .u64 ((s.next:Int)+1),.slice Ak nk ck,.slice Aq nt ct,.slice Ar (L+1) cr],.bool false]) (by simp[results,Tryz.results82,go_sem,q0,q1,q2,q3,q4,q5,q6]) rfl ?_
 open Q582 in exact M581):p:=h
theorem Q662.Y660 (h:p:=by
 have HQ6:=U hq6
 clear qf xf hx6 hq6 hbF1
 rw[<-hw6]
 clear hw6
 obtain⟨y0,y1,y2,-⟩:=BB.cells hy6
 obtain⟨e0,e1,e2,e3,e4,e5,e6,e7,e8,e9,e10⟩:=EBox.cells he6
 dsimp only at e0 e1 e2 e3 e4 e5
 clear hy6 he6
 by_cases h4:at'<=ea
 ·have HN : Hid (Dc at' al ⟨8, id, en, ea, name, text, ev⟩ s = (if true = true then (some { s with timers := s.timers ++ [(id, ea)], next := s.next + 1 } : Option ST) else none)) := U (by simp [Dc, H1.out, h4])
  have k4:decide ((at':Int)<=(ea:Int))=true:=decide_eq_true O0
  open Q260 in exact M258
 ·have HN : Hid (Dc at' al ⟨8, id, en, ea, name, text, ev⟩ s = (if false = true then (some { s with timers := s.timers ++ [(id, ea)], next := s.next + 1 } : Option ST) else none)) := U (by simp [Dc, H1.out, h4])
  have k4:decide ((at':Int)<=(ea:Int))=false:=decide_eq_false O0
  have h4n:ea<at':=O0
  open Q259 in exact M258):p:=h
theorem Q653.Y651 (h:p:=by
 have he6:EBox w6 (w.heap.size+3) (Db ⟨8,id,en,ea,name,text,ev⟩ vk vn vf vs A0 m0 c0):=by rw[hw6];exact(RowKit.Below.heap_setCell _ _ _ _ (by show w.heap.size+3≠w.heap.size;omega)).trans (HX2.out cF hbF1).2.2.2
 have HB6:Hid (Below w.heap.size w w6):=U (by rw[hw6];exact(HBW2.out cF hbF1).setCell (p:=⟨w.heap.size,6,none⟩) (Nat.le_refl _) _)
 have HW6:=U hw6
 obtain⟨x0,x1,x2,x3,x4,x5,x6,xf⟩:=hx6.cells
 rw[show ((s.next+1:Nat):Int)=(s.next:Int)+1 from rfl] at x3
 obtain⟨q0,q1,q2,q3,q4,q5,q6,qf⟩:=hq6.cells
 open Q662 in exact M660):p:=h
theorem Q612.Y609 (h:p:=by
 clear hHeldZ cx fx
 obtain⟨w6,hw6⟩:=Rm (cF.setCell ⟨w.heap.size,6,none⟩ (.slice Ar (L+1) cr))
 have hbF1:Below W2.heap.size W2 cF:=HBu1.out _ HBF.out
 have hx6:RX w6 w.heap.size f (.slice Bu nu cu) s.closed (s.next+1) (.slice Ak nk ck) (.slice Aq nt ct) (.slice Ar (L+1) cr):=by rw[hw6];exact(HX2.out cF hbF1).1.set6
 open Q653 in exact M651):p:=h
theorem Q399.Y397 (h:p:=by
 refine tk 11 rfl ?_
 obtain⟨cx,fx⟩:=HCX.out cF HBF.out
 refine rd1 12 rfl fun K hK=> ?_
 open Q612 in exact M609):p:=h
theorem M0 (h:p:=by
 try simp only[ap]
 refine rd1 10 rfl fun K hK=> ?_
 refine Dd zw01A rfl _ _ 82 94 rfl i0 _ 2 16 Tryz.underlying82 HSZ.out hi0 hz0 hz1 hz2 rfl O1 u0.heap.size v1 (.slice (some ⟨ib,0,none⟩) 1 1) L 1 xs (#[Value.int .u64 (id:Nat),.int .u64 (ea:Nat)]:Array Value).toList rfl rfl own1_01A.out one_01A.out (by simp only[maxLen];omega) O0 HB01A.out.size ?_
 open Q399 in exact M397):p:=h
theorem Q394.Y392 (h:p:=by
 clear hK K hH01L
 exact M0):p:=h
theorem M21 (h:p:=by
 refine rd1 3 rfl fun K hK=> ?_
 refine Dd zw01 rfl _ _ 82 94 rfl i0 _ 2 16 Tryz.underlying82 HSZ.out hi0 hz0 hz1 hz2 rfl O1 u0.heap.size (.slice (some ⟨ia,0,none⟩) 0 0) (.slice Am L cm) 0 L [] xs rfl rfl own0_01.out (HIN.out _ HB01.out) (by simp only[maxLen];omega) O0 HB01.out.size ?_
 open Q394 in exact M392):p:=h
theorem Q586.Y584 (h:p:=by
 clear hK K hH0AL
 exact M0):p:=h
theorem Q416.Y414 (h:p:=by
 have one_01A:Hid (CIn zw01A (.slice (some ⟨ib,0,none⟩) 1 1) 1 2 (#[Value.int .u64 (id:Nat),.int .u64 (ea:Nat)]:Array Value).toList):=U (by rw[hc01A,hib];exact CIn.new zw0A _ _ rfl HONE.out)
 open Q586 in exact M584):p:=h
theorem Q365.Y361 (h:p:=by
 refine rd1 9 rfl fun K hK=> ?_
 go_simp
 obtain⟨zw01A,hc01A⟩:∃u,u=zw0A.alloc (.cells (#[Value.int .u64 (id:Nat),.int .u64 (ea:Nat)]:Array Value) 94):=⟨_,rfl⟩
 open Q416 in exact M414):p:=h
theorem Q422.Y419 (h:p:=by
 refine hK.out _ _ (HKS.out _ HB01.out) (fun hH01L=> ?_)
 clear hK K hH0L
 try simp only[ap]
 exact M21):p:=h
theorem Q332.Y329 (h:p:=by
 have one_01:Hid (CIn zw01 (.slice (some ⟨ib,0,none⟩) 1 1) 1 2 (#[Value.int .u64 (id:Nat),.int .u64 (ea:Nat)]:Array Value).toList):=U (by rw[hc01,hib];exact CIn.new zw0 _ _ rfl HONE.out)
 open Q422 in exact Jr):p:=h
theorem M29 (h:p:=by
 refine rd2 3 9 rfl rfl (fun K hK=> ?_) fun K hK=> ?_
 ·refine Dd zw0 rfl _ _ 82 94 rfl i0 _ 2 16 Tryz.underlying82 HSZ.out hi0 hz0 hz1 hz2 rfl O1 u0.heap.size (.slice (some ⟨ia, 0, none⟩) 0 0) (.slice Am L cm) 0 L [] xs rfl rfl own0_0.out (HIN.out _ HB0.out) (by simp only [maxLen]; omega) O0 HB0.out.size ?_
  open Q365 in exact Ri
 ·go_simp
  obtain⟨zw01,hc01⟩:∃u,u=zw0.alloc (.cells (#[Value.int .u64 (id:Nat),.int .u64 (ea:Nat)]:Array Value) 94):=⟨_,rfl⟩
  open Q332 in exact Jt):p:=h
theorem Q505.Y502 (h:p:=by
 replace hia:=U hia
 refine hK.out _ _ (HKS.out _ HB01.out) (fun hH01L=> ?_)
 clear hK K hH1L
 try simp only[ap]
 exact M21):p:=h
theorem Q382.Y380 (h:p:=by
 have own0_01:Hid (zw01.ownsRow u0.heap.size 94 2 (.slice (some ⟨ia,0,none⟩) 0 0) 0 []):=U (by rw[hc01,hia];exact World.ownsRow_lit zw1 #[] 0 HB1.out.size (Nat.zero_le _) O3)
 open Q505 in exact M502):p:=h
theorem M67 (h:p:=by
 refine rd1 0 rfl fun K hK=> ?_
 go_simp
 obtain⟨zw01,hc01⟩:∃u,u=zw1.alloc (.cells #[] 94):=⟨_,rfl⟩
 open Q382 in exact M380):p:=h
theorem Q546.Y544 (h:p:=by
 clear cx
 exact M21):p:=h
theorem M122 (h:p:=by
 open Q546 in exact M544):p:=h
theorem Q599.Y595 (h:p:=by
 clear cx
 exact M29):p:=h
theorem Q423.Y419 (h:p:=by
 refine hK.out _ _ (HKS.out _ HB01.out) (fun hH01=> ?_)
 clear hK K hH0
 exact M122):p:=h
theorem Q333.Y329 (h:p:=by
 have one_01:Hid (CIn zw01 (.slice (some ⟨ib,0,none⟩) 1 1) 1 2 (#[Value.int .u64 (id:Nat),.int .u64 (ea:Nat)]:Array Value).toList):=U (by rw[hc01,hib];exact CIn.new zw0 _ _ rfl HONE.out)
 open Q423 in exact Jr):p:=h
theorem Q249.Y240 (h:p:=by
 refine hK.out _ _ (HKS.out _ HB0.out) (fun hH0=> ?_)
 clear hK K hHeld
 try simp only[ap]
 refine rd2 2 9 rfl rfl (fun K hK=> ?_) fun K hK=> ?_
 ·open Q599 in exact Rg
 ·go_simp
  obtain⟨zw01,hc01⟩:∃u,u=zw0.alloc (.cells (#[Value.int .u64 (id:Nat),.int .u64 (ea:Nat)]:Array Value) 94):=⟨_,rfl⟩
  open Q333 in exact Jt):p:=h
theorem Q250.Y240 (h:p:=by
 refine hK.out _ _ (HKS.out _ HB0.out) (fun hH0L=> ?_)
 clear hK K hHL
 try simp only[ap]
 exact M29):p:=h
theorem Q744.Y742 (h:p:=by
 try simp only[ap]
 exact M67):p:=h
theorem Q355.Y352 (h:p:=by
 have one_1:Hid (CIn zw1 (.slice (some ⟨ib,0,none⟩) 1 1) 1 2 (#[Value.int .u64 (id:Nat),.int .u64 (ea:Nat)]:Array Value).toList):=U (by rw[hc1,hib];exact CIn.new u0 _ _ rfl HONE.out)
 open Q744 in exact M742):p:=h
theorem Q506.Y502 (h:p:=by
 replace hia:=U hia
 refine hK.out _ _ (HKS.out _ HB01.out) (fun hH01=> ?_)
 clear hK K hH1
 exact M122):p:=h
theorem Q384.Y380 (h:p:=by
 have own0_01:Hid (zw01.ownsRow u0.heap.size 94 2 (.slice (some ⟨ia,0,none⟩) 0 0) 0 []):=U (by rw[hc01,hia];exact World.ownsRow_lit zw1 #[] 0 HB1.out.size (Nat.zero_le _) O3)
 open Q506 in exact M502):p:=h
theorem Q678.Y676 (h:p:=by
 clear cx
 exact M67):p:=h
theorem Q695.Y693 (h:p:=by
 refine rd2 0 2 rfl rfl (fun K hK=> ?_) fun K hK=> ?_
 ·go_simp
  obtain⟨zw01,hc01⟩:∃u,u=zw1.alloc (.cells #[] 94):=⟨_,rfl⟩
  open Q384 in exact M380
 ·open Q678 in exact M676):p:=h
theorem Q356.Y352 (h:p:=by
 have one_1:Hid (CIn zw1 (.slice (some ⟨ib,0,none⟩) 1 1) 1 2 (#[Value.int .u64 (id:Nat),.int .u64 (ea:Nat)]:Array Value).toList):=U (by rw[hc1,hib];exact CIn.new u0 _ _ rfl HONE.out)
 open Q695 in exact M693):p:=h
theorem Q567.Y563 (h:p:=by
 refine rd2 0 9 rfl rfl (fun K hK=> ?_) fun K hK=> ?_
 ·open Q250 in exact Vy
 ·go_simp
  obtain⟨zw1,hc1⟩:∃u,u=u0.alloc (.cells (#[Value.int .u64 (id:Nat),.int .u64 (ea:Nat)]:Array Value) 94):=⟨_,rfl⟩
  open Q355 in exact Js):p:=h
set_option maxRecDepth 100000 in
set_option maxHeartbeats 4000000 in
theorem cmd8_any (s:ST)(f:ByteArray)(Bu:Option Addr)(nu cu:Nat)(uk ut um:Value)(b:BT)(A:Option Addr)(cap:Nat)(w:World)(h:OIn X w s uk ut um b A cap)(i:Nat)(hp:i<b.es.length)(he:FW (b.es[i]'hp))(hk:b.es[i].k=8) :
  Calls Tryz.prog 82 #[.agg (rhC f (.slice Bu nu cu) s.closed s.next uk ut um),.agg #[.string b.flow,.int .u64 (b.at':Nat),.slice A b.es.length cap],.int .i64 (i:Nat)] w (PT X w f (.slice Bu nu cu) (Dc b.at' (decide (i+1=b.es.length)) (b.es[i]'hp) s)):=by
 obtain⟨Ak,nk,ck,rfl⟩:∃A n c,uk= .slice A n c:=by obtain⟨xs,⟨-,-,A,c,e,-⟩,-⟩:=h.rs.keys;exact⟨_,_,_,e⟩
 obtain⟨Aq,nt,ct,rfl⟩:∃A n c,ut= .slice A n c:=by obtain⟨xs,⟨-,-,A,c,e,-⟩,-⟩:=h.rs.tasks;exact⟨_,_,_,e⟩
 obtain⟨Am,nm,cm,rfl⟩:∃A n c,um= .slice A n c:=by obtain⟨xs,⟨-,-,A,c,e,-⟩,-⟩:=h.rs.timers;exact⟨_,_,_,e⟩
 obtain⟨eb,eo,lo0,hi0,vk,vn,vf,vs,A0,m0,c0,rfl,heb,hff,hrep,hhi,z0,z1,z2,z3,z4,z5,z6,z7,z8,z9,z10⟩:=h.evs.get i hp
 have hrepV:=hrep
 replace hrep:=Rep.leads hrep (Df X w)
 rw[DM] at heb hhi
 replace z0:=(Df X w).cell z0
 replace z1:=(Df X w).cell z1
 replace z2:=(Df X w).cell z2
 replace z3:=(Df X w).cell z3
 replace z4:=(Df X w).cell z4
 replace z5:=(Df X w).cell z5
 replace z6:=(Df X w).cell z6
 replace z7:=(Df X w).cell z7
 replace z8:=(Df X w).cell z8
 replace z9:=(Df X w).cell z9
 replace z10:=(Df X w).cell z10
 have hle:=h.evs.le
 have hcm:=h.evs.cap_le
 simp only[maxLen] at hcm
 obtain⟨m,hm⟩:=Rm (b.es.length)
 obtain⟨ff,hf0⟩:=Rm (b.flow)
 obtain⟨at',hat⟩:∃at',at'=b.at':=⟨_,rfl⟩
 obtain⟨e,hee⟩:=Rm (b.es[i]'hp)
 have hbat:=h.at'
 rw[<-hat] at hbat
 rw[<-hee] at hff hrep hrepV z0 z1 z2 z3 z4 z5 he hk ⊢
 have HRV:=U h.rs;have HRS:=U (h.rs.leads (Df X w));have HXB:=U h.xb;have HFI:=U h.fine;have hn1:=h.n1;have hn2:=h.n2;have hn3:=h.n3;have hn4:=h.n4
 rw[<-hm] at hle ⊢
 rw[<-hf0, <-hat]
 have hmp:i<m:=O0
 clear h hee hat hf0 hm hp
 obtain⟨k,id,en,ea,name,text,ev⟩:=e
 have hid:=he.f.i1
 dsimp only at hid hk hrep hrepV hff z0 z1 z2 z3 z4 z5 z6 z7 z8 z9 z10
 obtain rfl:k=8:=hk
 have HE:=U he
 obtain⟨W0,hW0⟩:=Rm (((w.alloc (.cells (rhC f (.slice Bu nu cu) s.closed s.next (.slice Ak nk ck) (.slice Aq nt ct) (.slice Am nm cm)) 84)).alloc (.cells #[.string ff,.int .u64 (at':Nat),.slice (some ⟨eb,eo,none⟩) m cap] 64)).alloc (.cells (rhC ⟨#[]⟩ (.slice none 0 0) 0 0 (.slice none 0 0) (.slice none 0 0) (.slice none 0 0)) 84))
 obtain⟨W1,hW1⟩:=Rm (W0.alloc (.cells (Db ⟨8,id,en,ea,name,text,ev⟩ vk vn vf vs A0 m0 c0) 61))
 have hs0:W0.heap.size=w.heap.size+3:=by rw[hW0];simp
 have hs1:W1.heap.size=w.heap.size+4:=by rw[hW1];simp[hs0]
 have hb0:Below w.heap.size w W0:=by rw[hW0];exact(Rl.alloc O3 _).alloc (by simp;omega) _
 have hb1:Below w.heap.size w W1:=by rw[hW1];exact hb0.alloc O0 _
 have hx0:W0.heap[w.heap.size]?=some (.cells (rhC f (.slice Bu nu cu) s.closed s.next (.slice Ak nk ck) (.slice Aq nt ct) (.slice Am nm cm)) 84 (0,0)):=by rw[hW0];exact(heap_alloc_old _ _ (by simp;omega)).trans ((heap_alloc_old _ _ O3).trans (heap_alloc_new w _))
 have hx1:W0.heap[w.heap.size+1]?=some (.cells #[.string ff,.int .u64 (at':Nat),.slice (some ⟨eb,eo,none⟩) m cap] 64 (0,0)):=by
  exact M56
 have hx2:W0.heap[w.heap.size+2]?=some (.cells (rhC ⟨#[]⟩ (.slice none 0 0) 0 0 (.slice none 0 0) (.slice none 0 0) (.slice none 0 0)) 84 (0,0)):=by
  exact M40
 have HX:Hid (∀W,Below W1.heap.size W1 W->RX W w.heap.size f (.slice Bu nu cu) s.closed s.next (.slice Ak nk ck) (.slice Aq nt ct) (.slice Am nm cm)/\BB W (w.heap.size+1) ff at' (some ⟨eb,eo,none⟩) m cap/\RX W (w.heap.size+1+1) ⟨#[]⟩ (.slice none 0 0) 0 0 (.slice none 0 0) (.slice none 0 0) (.slice none 0 0)/\EBox W (w.heap.size+3) (Db ⟨8,id,en,ea,name,text,ev⟩ vk vn vf vs A0 m0 c0)):=U fun W hW=>by
  exact M48
 have HBW:Hid (∀W,Below W1.heap.size W1 W->Below w.heap.size w W):=U fun W hW=>hb1.trans (hW.mono hb1.size)
 have HS1:=U hs1;have HB1:=U hb1
 obtain⟨y0,y1,y2,-⟩:=BB.cells (show BB W0 (w.heap.size+1) ff at' (some ⟨eb,eo,none⟩) m cap from hx1)
 obtain⟨x0,x1,x2,x3,x4,x5,x6,-⟩:=(HX.out W1 (Below.refl _ _)).1.cells
 have e0:=(hb0.cell (p:=⟨eb,eo+i*11,none⟩) heb).trans z0
 have e1:=(hb0.cell (p:=⟨eb,eo+i*11+1,none⟩) heb).trans z1
 have e2:=(hb0.cell (p:=⟨eb,eo+i*11+2,none⟩) heb).trans z2
 have e3:=(hb0.cell (p:=⟨eb,eo+i*11+3,none⟩) heb).trans z3
 have e4:=(hb0.cell (p:=⟨eb,eo+i*11+4,none⟩) heb).trans z4
 have e5:=(hb0.cell (p:=⟨eb,eo+i*11+5,none⟩) heb).trans z5
 have e6:=(hb0.cell (p:=⟨eb,eo+i*11+6,none⟩) heb).trans z6
 have e7:=(hb0.cell (p:=⟨eb,eo+i*11+7,none⟩) heb).trans z7
 have e8:=(hb0.cell (p:=⟨eb,eo+i*11+8,none⟩) heb).trans z8
 have e9:=(hb0.cell (p:=⟨eb,eo+i*11+9,none⟩) heb).trans z9
 have e10:=(hb0.cell (p:=⟨eb,eo+i*11+10,none⟩) heb).trans z10
 have HREP:=U hrep;have HREPV:=U hrepV;have HHI:=U hhi
 unfold rhC at hW0 ⊢
 unfold Db at hW1
 dsimp only at hW1
 rw[show ((0:Nat):Int)=0 from rfl] at hW0
 have hWs:=U hs0
 clear hs0 hs1 hb0 hb1 hx0 hx1 hx2 z0 z1 z2 z3 z4 z5 z6 z7 z8 z9 z10 hrep hrepV hhi hff he heb
 replace hW0:=U hW0
 replace hW1:=U hW1
 obtain⟨al,hal⟩:=Rm (decide (i+1=m))
 have hm1:((i:Int)==(m:Int)-1)=al:=by
  exact M113
 rw[<-hal]
 have HAL:=U hal
 clear hal
 go_enter Tryz.func82,Tryz.ntmps82
 go_upto_region 1 with fail
 rw[<-hW0.out]
 go_upto_region 2 with fail
 rw[<-hW1.out]
 rw[show W0.heap.size=w.heap.size+3 from hWs.out]
 clear y0 y1 y2 e0 e1 e2 e3 e4 e5 e6 e7 e8 e9 e10
 clear x0 x1 x2 x3 x4 x5 x6
 obtain⟨x0,x1,x2,x3,x4,x5,x6,xf⟩:=(HX.out W1 (Below.refl _ _)).1.cells
 obtain⟨y0,y1,y2,-⟩:=(HX.out W1 (Below.refl _ _)).2.1.cells
 obtain⟨e0,e1,e2,e3,e4,e5,e6,e7,e8,e9,e10⟩:=EBox.cells (HX.out W1 (Below.refl _ _)).2.2.2
 dsimp only at e0 e1 e2 e3 e4 e5
 obtain⟨q0,q1,q2,q3,q4,q5,q6,qf⟩:=(HX.out W1 (Below.refl _ _)).2.2.1.cells
 rw[show ((0:Nat):Int)=0 from rfl] at q3
 have qf0:=qf 0;have qf1:=qf 1;have qf2:=qf 2;have qf3:=qf 3;have qf4:=qf 4;have qf5:=qf 5;have qf6:=qf 6
 clear qf
 by_cases h1:id=s.next
 rotate_left
 ·have HN : Hid (Dc at' al ⟨8, id, en, ea, name, text, ev⟩ s = none) := U (by simp [Dc, h1])
  exact M74
 have k1:((id:Int)==(s.next:Int))=true:=by simp;omega
 have k1':((id:Int) != (s.next:Int))=false:=by simp;omega
 have H1:=U h1
 clear h1
 obtain⟨xs,hcinV,hst⟩:=HRV.out.timers
 have hcin:=hcinV.leads (Df X w)
 clear hcinV
 have HCI:=U hcin;have HST:=U hst
 obtain⟨rfl,hkc⟩:nm=s.timers.length/\s.timers.length<=cm:=by obtain⟨-,-,A9,cap9,heq9,hle9,-,-⟩:=hcin;injection heq9 with a1 a2 a3;exact⟨a2,by rw[a3];exact hle9⟩
 obtain⟨i0,hi0,hz0,hz1,hz2⟩:=info_parts Tryz.infoRm
 have HSZ:=U (Od hi0 hz1)
 have HONE:Hid (∀x∈(#[Value.int .u64 (id:Nat),.int .u64 (ea:Nat)]:Array Value).toList,x.oneCell'=true):=U (by intro x hx;simp at hx;rcases hx with rfl|rfl<;>rfl)
 clear hcin hst
 obtain⟨L,hL⟩:=Rm (s.timers.length)
 have HLL:=U hL
 obtain⟨W2,hW2⟩:=Rm (W1.setCell ⟨w.heap.size,3,none⟩ (.int .u64 ((s.next:Int)+1)))
 rw[<-hL] at hkc hn2 HX x6
 have hb2:Below w.heap.size w W2:=by rw[hW2];exact(HBW.out W1 (Below.refl _ _)).setCell (p:=⟨w.heap.size,3,none⟩) (Nat.le_refl _) _
 have hz2':W2.heap.size=W1.heap.size:=by rw[hW2];simp[World.setCell]
 have HX2:Hid (∀W,Below W2.heap.size W2 W->RX W w.heap.size f (.slice Bu nu cu) s.closed (s.next+1) (.slice Ak nk ck) (.slice Aq nt ct) (.slice Am L cm)/\BB W (w.heap.size+1) ff at' (some ⟨eb,eo,none⟩) m cap/\RX W (w.heap.size+1+1) ⟨#[]⟩ (.slice none 0 0) 0 0 (.slice none 0 0) (.slice none 0 0) (.slice none 0 0)/\EBox W (w.heap.size+3) (Db ⟨8,id,en,ea,name,text,ev⟩ vk vn vf vs A0 m0 c0)):=U fun W hW=>by
  exact M82
 have HBW2:Hid (∀W,Below W2.heap.size W2 W->Below w.heap.size w W):=U fun W hW=>hb2.trans (hW.mono hb2.size)
 have HZ22:=U hz2'
 clear hL hb2 hz2'
 replace hW2:=U hW2
 have kn:=IntWalk.u64_in ((s.next:Int)+1) O0
 go_upto_region 11 with fail
 rw[<-hW2.out]
 clear kn
 clear x0 x1 x2 x3 x4 x5 x6 xf y0 y1 y2 e0 e1 e2 e3 e4 e5 e6 e7 e8 e9 e10 q0 q1 q2 q3 q4 q5 q6 qf0 qf1 qf2 qf3 qf4 qf5 qf6
 obtain⟨u0,hu0⟩:∃u,u=W2.drew:=⟨_,rfl⟩
 have HBu1:Hid (∀W,Below u0.heap.size u0 W->Below W2.heap.size W2 W):=U fun W hW=>by rw[hu0] at hW;exact(Da (Below.refl W2.heap.size W2)).trans (hW.mono (Nat.le_refl _))
 have HBu0:Hid (W1.heap.size<=u0.heap.size):=U (by rw[hu0, <-HZ22.out];exact Nat.le_refl _)
 have HBu:Hid (Below u0.heap.size u0 u0):=U (Below.refl _ _)
 have HKS:Hid (∀W,Below u0.heap.size u0 W->(fun W:World=>W.cell? ⟨w.heap.size+3,1,none⟩=some (.int .u64 (id:Nat))/\W.cell? ⟨w.heap.size+3,3,none⟩=some (.int .u64 (ea:Nat))/\W.cell? ⟨w.heap.size+3,4,none⟩=some (.string name)/\W.cell? ⟨w.heap.size+3,6,none⟩=some (.int .i64 vk)/\W.cell? ⟨w.heap.size+3,7,none⟩=some (.int .i64 vn)/\W.cell? ⟨w.heap.size+3,8,none⟩=some (.float .f64 vf)/\W.cell? ⟨w.heap.size+3,9,none⟩=some (.string vs)/\W.cell? ⟨w.heap.size+3,10,none⟩=some (.slice A0 m0 c0)/\W.cell? ⟨w.heap.size+1,1,none⟩=some (.int .u64 (at':Nat))) W):=U fun W hW=>by
  exact M135
 have HKS2:Hid (∀W v,Below u0.heap.size u0 W->(fun W:World=>W.cell? ⟨w.heap.size+3,1,none⟩=some (.int .u64 (id:Nat))/\W.cell? ⟨w.heap.size+3,3,none⟩=some (.int .u64 (ea:Nat))/\W.cell? ⟨w.heap.size+3,4,none⟩=some (.string name)/\W.cell? ⟨w.heap.size+3,6,none⟩=some (.int .i64 vk)/\W.cell? ⟨w.heap.size+3,7,none⟩=some (.int .i64 vn)/\W.cell? ⟨w.heap.size+3,8,none⟩=some (.float .f64 vf)/\W.cell? ⟨w.heap.size+3,9,none⟩=some (.string vs)/\W.cell? ⟨w.heap.size+3,10,none⟩=some (.slice A0 m0 c0)/\W.cell? ⟨w.heap.size+1,1,none⟩=some (.int .u64 (at':Nat))) (W.setCell ⟨w.heap.size,6,none⟩ v)):=U fun W v hW=>by
  obtain⟨-,d2,-,d4⟩:=HX2.out W (HBu1.out W hW)
  have d4':EBox (W.setCell ⟨w.heap.size,6,none⟩ v) (w.heap.size+3) (Db ⟨8,id,en,ea,name,text,ev⟩ vk vn vf vs A0 m0 c0):=(RowKit.Below.heap_setCell _ _ _ _ (by show w.heap.size+3≠w.heap.size;omega)).trans d4
  have d2':BB (W.setCell ⟨w.heap.size,6,none⟩ v) (w.heap.size+1) ff at' (some ⟨eb,eo,none⟩) m cap:=(RowKit.Below.heap_setCell _ _ _ _ (by show w.heap.size+1≠w.heap.size;omega)).trans d2
  exact M170
 have HCX:Hid (∀W,Below u0.heap.size u0 W->W.cell? ⟨w.heap.size,6,none⟩=some (.slice Am L cm)/\W.frozen? ⟨w.heap.size,6,none⟩=false):=U fun W hW=>⟨(HX2.out W (HBu1.out W hW)).1.cells.2.2.2.2.2.2.1,(HX2.out W (HBu1.out W hW)).1.cells.2.2.2.2.2.2.2 6⟩
 have HIN:Hid (∀W,Below u0.heap.size u0 W->CIn W (.slice Am L cm) L 2 xs):=U fun W hW=>by rw[HLL.out];exact HCI.out.later (HBW2.out W (HBu1.out W hW))
 have HOUT:Hid (∀(s1:ST) (bb:Bool) (cF W7:World) (Ar:Option Addr) (cr:Nat),(bb=true->(some {s with timers:=s.timers++ [(id,ea)],next:=s.next+1}:Option ST)=some s1)->((some {s with timers:=s.timers++ [(id,ea)],next:=s.next+1}:Option ST)).isSome=true->Dc at' al ⟨8,id,en,ea,name,text,ev⟩ s=(if bb=true then (some {s with timers:=s.timers++ [(id,ea)],next:=s.next+1}:Option ST) else none)->cF.ownsRow u0.heap.size 94 2 (.slice Ar (L+1) cr) (L+1) (xs++(#[Value.int .u64 (id:Nat),.int .u64 (ea:Nat)]:Array Value).toList)->(∀r,rowOf Ar=some r->u0.heap.size<=r)->Below u0.heap.size u0 cF->Below w.heap.size w W7->(∀r,r≠w.heap.size->r≠w.heap.size+1+1->W7.heap[r]?=cF.heap[r]?)->
   PT X w f (.slice Bu nu cu) (Dc at' al ⟨8,id,en,ea,name,text,ev⟩ s) (.returned (.tuple #[.agg #[.string f,.slice Bu nu cu,.int .i64 s.closed,.int .u64 ((s.next:Int)+1),.slice Ak nk ck,.slice Aq nt ct,.slice Ar (L+1) cr],.bool bb])) W7):=U fun s1 bb cF W7 Ar cr hs1 hsm hap ho hbr hbF hb7 hm7=>by
  have hs:=HS1.out
  have hu:=HBu0.out
  have ho7:=Dx (w':=W7) ho (fun r hr=>by
   have:=hbr r hr
   exact hm7 r O0 O0)
  refine⟨hb7,s.closed,s.next+1,.slice Ak nk ck,.slice Aq nt ct,.slice Ar (L+1) cr,⟨_,_,_,rfl⟩,⟨_,_,_,rfl⟩,⟨_,_,_,rfl⟩,?_,fun s' hs=> ?_⟩
  ·rw[hap];cases bb<;>rfl
  rw[hap] at hs
  cases bb with
  | false=>cases hs
  | true=>
  cases hs
  refine⟨rfl,rfl,⟨(HRV.out.leads (Dt X hb7)).keys,(HRV.out.leads (Dt X hb7)).tasks,⟨xs++(#[Value.int .u64 (id:Nat),.int .u64 (ea:Nat)]:Array Value).toList,?_,?_⟩⟩⟩
  ·have e : (s.timers ++ [((id, ea) : Nat × Nat)]).length = L + 1 := by rw [List.length_append, <- HLL.out]; rfl
   dsimp only
   rw[e]
   refine CIn.of_veil ho7 ?_ (by intro c hc;have:=HXB.out c hc;have:=HBu0.out;have:=HS1.out;omega)
   intro x hx
   rcases List.mem_append.1 hx with q|q
   ·exact HCI.out.2.1 x q
   ·exact HONE.out x q
  ·unfold TmC;dsimp only;rw[List.flatMap_append,HST.out];rfl
 refine wp_region_noPanic ?_
 refine wp_region_held_drew (S:=(fun W:World=>W.cell? ⟨w.heap.size+3,1,none⟩=some (.int .u64 (id:Nat))/\W.cell? ⟨w.heap.size+3,3,none⟩=some (.int .u64 (ea:Nat))/\W.cell? ⟨w.heap.size+3,4,none⟩=some (.string name)/\W.cell? ⟨w.heap.size+3,6,none⟩=some (.int .i64 vk)/\W.cell? ⟨w.heap.size+3,7,none⟩=some (.int .i64 vn)/\W.cell? ⟨w.heap.size+3,8,none⟩=some (.float .f64 vf)/\W.cell? ⟨w.heap.size+3,9,none⟩=some (.string vs)/\W.cell? ⟨w.heap.size+3,10,none⟩=some (.slice A0 m0 c0)/\W.cell? ⟨w.heap.size+1,1,none⟩=some (.int .u64 (at':Nat)))) O2 ?_ (fun hHeld=> ?_)
 ·exact M104
 rw[<-hu0] at hHeld
 rw[<-hu0]
 replace hu0:=U hu0
 refine tk 1 rfl ?_
 refine tk 4 rfl ?_
 refine tk 5 rfl ?_
 refine tk 6 rfl ?_
 refine tk 7 rfl ?_
 refine tk 8 rfl ?_
 refine wpAnyH_ready (rs:=[0,2,9]) O2 O3 ?_
 refine Dh rfl (fun K hK=> ?_) (Dh rfl (fun K hK=> ?_) (Dh rfl (fun K hK=> ?_) AllReadyH.nil))
 ·open Q249 in exact Vy
 ·open Q567 in exact Rh
 ·go_simp
  obtain⟨zw1,hc1⟩:∃u,u=u0.alloc (.cells (#[Value.int .u64 (id:Nat),.int .u64 (ea:Nat)]:Array Value) 94):=⟨_,rfl⟩
  open Q356 in exact Js
variable {X : Nat -> Prop}
theorem Jg (s:ST)(f:ByteArray)(Bu:Option Addr)(nu cu:Nat)(uk ut um:Value)(b:BT)(A:Option Addr)(cap:Nat)(w:World)(h:OIn X w s uk ut um b A cap)(i:Nat)(hp:i<b.es.length)(he:FW (b.es[i]'hp))(hk:7<=(b.es[i]'hp).k) :
  Calls Tryz.prog 82 #[.agg (rhC f (.slice Bu nu cu) s.closed s.next uk ut um),.agg #[.string b.flow,.int .u64 (b.at':Nat),.slice A b.es.length cap],.int .i64 (i:Nat)] w (PT X w f (.slice Bu nu cu) (Dc b.at' (decide (i+1=b.es.length)) (b.es[i]'hp) s)):=by
 have h1:=he.k1
 have hc:(b.es[i]'hp).k=7\/(b.es[i]'hp).k=8\/(b.es[i]'hp).k=9\/(b.es[i]'hp).k=10\/(b.es[i]'hp).k=11:=O0
 rcases hc with q|q|q|q|q
 ·exact cmd7_any s f Bu nu cu uk ut um b A cap w h i hp he q
 ·exact cmd8_any s f Bu nu cu uk ut um b A cap w h i hp he q
 all_goals exact cmd9_any s f Bu nu cu uk ut um b A cap w h i hp he O0
end Hi
end Go.Proofs.YtaahfiopdoinkaaGreat
