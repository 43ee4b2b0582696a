/- The reference's outside: the reference's command: scheduled. -/
import Derived.Laws.Rows
import Derived.Laws.IdiomRangeMap
import Derived.Test.YtaahfiopdoinkaaGreatTwaq
variable {p : Prop}
set_option linter.unusedVariables false
set_option linter.unusedSimpArgs false
open Go.RowKit
namespace Go.Proofs.YtaahfiopdoinkaaGreat
namespace Hi
open _root_.Go.Proofs.YtaahfiopdoinkaaGreat.Nm (Dk De)
open Vt (VT Rep Da DX DY)
open Ev (EV Dj Db Dn EBox take_drop tk ap rd1 rd2 Dh)
open Cm (rowOf EvsIn)
open Cn (BT BB BtsIn Gs)
variable {X X' Y Y' : Nat -> Prop} {u v w w' V V' : World} {hb bt bm bk n cap : Nat} {A : Option Addr} {h : HM}
theorem M651 (h:p:=by
 have hq6:RX w6 (w.heap.size+1+1) ⟨#[]⟩ (.slice none 0 0) 0 0 (.slice none 0 0) (.slice none 0 0) (.slice none 0 0):=by rw[hw6];exact(HX2.out cF hbF1).2.2.1.far O0
 have hy6:BB w6 (w.heap.size+1) ff at' (some ⟨eb,eo,none⟩) m cap:=by rw[hw6];exact(RowKit.Below.heap_setCell _ _ _ _ (by show w.heap.size+1≠w.heap.size;omega)).trans (HX2.out cF hbF1).2.1
 exact Y651):p:=h
theorem Q289.Y286 (h:p:=by
 clear qf xf hx6 hq6 hbF1
 rw[<-hw6]
 clear hw6
 clear hy6 he6
 go_wp2_with fail
 refine bodyPost_ret (v:= .tuple #[.agg #[.string f,.slice Bu nu cu,.int .i64 s.closed,.int .u64 ((s.next:Int)+1),.slice Ak nk ck,.slice Ar (L+1) cr,.slice Am nm cm],.bool true]) (by simp[results,Tryz.results82,go_sem,q0,q1,q2,q3,q4,q5,q6]) rfl ?_
 obtain⟨W7,hW7⟩:=Rm (((((((w6.setCell ⟨w.heap.size+1+1,0,none⟩ (.string f)).setCell ⟨w.heap.size+1+1,1,none⟩ (.slice Bu nu cu)).setCell ⟨w.heap.size+1+1,2,none⟩ (.int .i64 s.closed)).setCell ⟨w.heap.size+1+1,3,none⟩ (.int .u64 ((s.next:Int)+1))).setCell ⟨w.heap.size+1+1,4,none⟩ (.slice Ak nk ck)).setCell ⟨w.heap.size+1+1,5,none⟩ (.slice Ar (L+1) cr)).setCell ⟨w.heap.size+1+1,6,none⟩ (.slice Am nm cm))
 rw[<-hW7]
 exact HOUT.out _ true cF W7 Ar cr (fun _=>rfl) rfl HN.out HOF.out HBRF.out HBF.out (by rw[hW7];exact Fk (g:=w.heap.size+1+1) HB6.out (Nat.le_succ_of_le (Nat.le_succ _)) _ _ _ _ _ _ _) (fun r h1 h2=>by rw[hW7,GR h2,HW6.out];exact RowKit.Below.heap_setCell _ _ _ _ h1)):p:=h
theorem Q652.Y651 (h:p:=by
 have he6:EBox w6 (w.heap.size+3) (Db ⟨7,id,en,ea,name,text,ev⟩ vk vn vf vs A0 m0 c0):=by rw[hw6];exact(RowKit.Below.heap_setCell _ _ _ _ (by show w.heap.size+3≠w.heap.size;omega)).trans (HX2.out cF hbF1).2.2.2
 have HB6:Hid (Below w.heap.size w w6):=U (by rw[hw6];exact(HBW2.out cF hbF1).setCell (p:=⟨w.heap.size,5,none⟩) (Nat.le_refl _) _)
 have HW6:=U hw6
 obtain⟨x0,x1,x2,x3,x4,x5,x6,xf⟩:=hx6.cells
 rw[show ((s.next+1:Nat):Int)=(s.next:Int)+1 from rfl] at x3
 obtain⟨q0,q1,q2,q3,q4,q5,q6,qf⟩:=hq6.cells
 open Q289 in exact OT):p:=h
theorem M2 (h:p:=by
 try simp only[ap]
 refine rd1 14 rfl fun K hK=> ?_
 refine Dd zw01A rfl _ _ 44 39 rfl i0 _ 10 112 Tryz.underlying44 HSZ.out hi0 hz0 hz1 hz2 rfl O1 u0.heap.size v1 (.slice (some ⟨ib,0,none⟩) 1 1) L 1 xs (#[Value.int .u64 (id:Nat),.string name,.int .i64 vk,.int .i64 vn,.float .f64 vf,.string vs,.slice A0 m0 c0,.int .i64 0,.bool false,.int .u64 (at':Nat)]:Array Value).toList rfl rfl own1_01A.out one_01A.out (by simp only[maxLen];omega) O0 HB01A.out.size ?_
 intro vF cF hown hgr
 obtain⟨Ar,cr,rfl,hbr⟩:=DN hown
 have HOF:=U hown;have HBRF:=U hbr
 have HBF:Hid (Below u0.heap.size u0 cF):=U (Dg HB01A.out hgr (fun r hr=>(own1_01A.out.lt r hr).1) HB01A.out.size)
 clear hown hgr hbr
 refine hK.out _ _ (HKS.out _ HBF.out) (fun hH01ABL=> ?_)
 clear hK K hH01AL
 try simp only[ap]
 refine tk 15 rfl ?_
 obtain⟨cx,fx⟩:=HCX.out cF HBF.out
 refine rd1 16 rfl fun K hK=> ?_
 go_simp
 refine hK.out _ _ (HKS2.out _ _ HBF.out) (fun hHeldZ=> ?_)
 clear hK K hH01ABL
 try simp only[ap]
 refine wpAnyH_done O2 ?_ _
 refine NoPanic.normal ?_
 clear hHeldZ cx fx
 obtain⟨w6,hw6⟩:=Rm (cF.setCell ⟨w.heap.size,5,none⟩ (.slice Ar (L+1) cr))
 have hbF1:Below W2.heap.size W2 cF:=HBu1.out _ HBF.out
 have hx6:RX w6 w.heap.size f (.slice Bu nu cu) s.closed (s.next+1) (.slice Ak nk ck) (.slice Ar (L+1) cr) (.slice Am nm cm):=by rw[hw6];exact(HX2.out cF hbF1).1.set5
 open Q652 in exact M651):p:=h
theorem M389 (h:p:=by
 go_simp
 obtain⟨zw01,hc01⟩:∃u,u=zw0.alloc (.cells (#[Value.int .u64 (id:Nat),.string name,.int .i64 vk,.int .i64 vn,.float .f64 vf,.string vs,.slice A0 m0 c0,.int .i64 0,.bool false,.int .u64 (at':Nat)]:Array Value) 39):=⟨_,rfl⟩
 rw[<-hc01]
 obtain⟨ib,hib⟩:∃i,i=zw0.heap.size:=⟨_,rfl⟩
 rw[<-hib]
 have hbz:Below zw0.heap.size zw0 zw01:=by rw[hc01];exact Rl
 have HB01:Hid (Below u0.heap.size u0 zw01):=U (HB0.out.trans (hbz.mono HB0.out.size))
 have one_01:Hid (CIn zw01 (.slice (some ⟨ib,0,none⟩) 1 1) 1 10 (#[Value.int .u64 (id:Nat),.string name,.int .i64 vk,.int .i64 vn,.float .f64 vf,.string vs,.slice A0 m0 c0,.int .i64 0,.bool false,.int .u64 (at':Nat)]:Array Value).toList):=U (by rw[hc01,hib];exact CIn.new zw0 _ _ rfl HONE.out)
 have HNE:Hid (ib≠ia):=U (by have q:=(own0_0.out.lt ia rfl).2;omega)
 have own0_01:=U (Fg own0_0.out hbz)
 clear hbz
 replace hc01:=U hc01
 replace hib:=U hib
 exact Y389):p:=h
theorem M26 (h:p:=by
 refine rd1 3 rfl fun K hK=> ?_
 refine Dd zw01 rfl _ _ 44 39 rfl i0 _ 10 112 Tryz.underlying44 HSZ.out hi0 hz0 hz1 hz2 rfl O1 u0.heap.size (.slice (some ⟨ia,0,none⟩) 0 0) (.slice Aq L ct) 0 L [] xs rfl rfl own0_01.out (HIN.out _ HB01.out) (by simp only[maxLen];omega) O0 HB01.out.size ?_
 intro v1 zw01A hown hgr
 have HB01A:Hid (Below u0.heap.size u0 zw01A):=U (Dg HB01.out hgr (fun r hr=>(own0_01.out.lt r hr).1) HB01.out.size)
 rw[Nat.zero_add,List.nil_append] at hown
 have own1_01A:=U hown
 have one_01A:=U (CIn.grown one_01.out hgr (fun e=>HNE.out (Option.some.inj e)))
 clear hown hgr
 refine hK.out _ _ (HKS.out _ HB01A.out) (fun hH01AL=> ?_)
 clear hK K hH01L
 exact M2):p:=h
theorem Q390.Y389 (h:p:=by
 refine hK.out _ _ (HKS.out _ HB01.out) (fun hH01L=> ?_)
 clear hK K hH0L
 try simp only[ap]
 exact M26):p:=h
theorem M20 (h:p:=by
 refine rd2 3 13 rfl rfl (fun K hK=> ?_) fun K hK=> ?_
 ·refine Dd zw0 rfl _ _ 44 39 rfl i0 _ 10 112 Tryz.underlying44 HSZ.out hi0 hz0 hz1 hz2 rfl O1 u0.heap.size (.slice (some ⟨ia, 0, none⟩) 0 0) (.slice Aq L ct) 0 L [] xs rfl rfl own0_0.out (HIN.out _ HB0.out) (by simp only [maxLen]; omega) O0 HB0.out.size ?_
  intro v1 zw0A hown hgr
  have HB0A:Hid (Below u0.heap.size u0 zw0A):=U (Dg HB0.out hgr (fun r hr=>(own0_0.out.lt r hr).1) HB0.out.size)
  rw[Nat.zero_add,List.nil_append] at hown
  have own1_0A:=U hown
  clear hown hgr
  refine hK.out _ _ (HKS.out _ HB0A.out) (fun hH0AL=> ?_)
  clear hK K hH0L
  try simp only[ap]
  refine rd1 13 rfl fun K hK=> ?_
  go_simp
  obtain⟨zw01A,hc01A⟩:∃u,u=zw0A.alloc (.cells (#[Value.int .u64 (id:Nat),.string name,.int .i64 vk,.int .i64 vn,.float .f64 vf,.string vs,.slice A0 m0 c0,.int .i64 0,.bool false,.int .u64 (at':Nat)]:Array Value) 39):=⟨_,rfl⟩
  rw[<-hc01A]
  obtain⟨ib,hib⟩:∃i,i=zw0A.heap.size:=⟨_,rfl⟩
  rw[<-hib]
  have hbz:Below zw0A.heap.size zw0A zw01A:=by rw[hc01A];exact Rl
  have HB01A:Hid (Below u0.heap.size u0 zw01A):=U (HB0A.out.trans (hbz.mono HB0A.out.size))
  have one_01A:Hid (CIn zw01A (.slice (some ⟨ib,0,none⟩) 1 1) 1 10 (#[Value.int .u64 (id:Nat),.string name,.int .i64 vk,.int .i64 vn,.float .f64 vf,.string vs,.slice A0 m0 c0,.int .i64 0,.bool false,.int .u64 (at':Nat)]:Array Value).toList):=U (by rw[hc01A,hib];exact CIn.new zw0A _ _ rfl HONE.out)
  have own1_01A:=U (Fg own1_0A.out hbz)
  clear hbz
  replace hc01A:=U hc01A
  replace hib:=U hib
  refine hK.out _ _ (HKS.out _ HB01A.out) (fun hH01AL=> ?_)
  clear hK K hH0AL
  exact M2
 ·open Q390 in exact M389):p:=h
theorem M458 (h:p:=by
 go_simp
 obtain⟨zw01,hc01⟩:∃u,u=zw1.alloc (.cells #[] 39):=⟨_,rfl⟩
 rw[<-hc01]
 obtain⟨ia,hia⟩:∃i,i=zw1.heap.size:=⟨_,rfl⟩
 rw[<-hia]
 have hbz:Below zw1.heap.size zw1 zw01:=by rw[hc01];exact Rl
 have HB01:Hid (Below u0.heap.size u0 zw01):=U (HB1.out.trans (hbz.mono HB1.out.size))
 have own0_01:Hid (zw01.ownsRow u0.heap.size 39 10 (.slice (some ⟨ia,0,none⟩) 0 0) 0 []):=U (by rw[hc01,hia];exact World.ownsRow_lit zw1 #[] 0 HB1.out.size (Nat.zero_le _) O3)
 have HNE:Hid (ib≠ia):=U (by have q:ib<zw1.heap.size:=one_1.out.lt;omega)
 have one_01:=U (CIn.later one_1.out hbz)
 clear hbz
 replace hc01:=U hc01
 replace hia:=U hia
 exact Y458):p:=h
theorem Q459.Y458 (h:p:=by
 refine hK.out _ _ (HKS.out _ HB01.out) (fun hH01L=> ?_)
 clear hK K hH1L
 try simp only[ap]
 exact M26):p:=h
theorem M66 (h:p:=by
 refine rd1 0 rfl fun K hK=> ?_
 open Q459 in exact M458):p:=h
theorem M74 (h:p:=by
 have k1:((id:Int)==(s.next:Int))=false:=by simp;omega
 have k1':((id:Int) != (s.next:Int))=true:=by simp;omega
 go_wp2_with fail
 refine bodyPost_ret (v:= .tuple #[.agg #[.string f,.slice Bu nu cu,.int .i64 s.closed,.int .u64 (s.next:Nat),.slice Ak nk ck,.slice Aq nt ct,.slice Am nm cm],.bool false]) (by simp[results,Tryz.results82,go_sem,q0,q1,q2,q3,q4,q5,q6]) rfl ?_
 exact⟨Fk (HBW.out W1 (Below.refl _ _)) (Nat.le_succ_of_le (Nat.le_succ _)) _ _ _ _ _ _ _,s.closed,s.next,.slice Ak nk ck,.slice Aq nt ct,.slice Am nm cm,⟨_,_,_,rfl⟩,⟨_,_,_,rfl⟩,⟨_,_,_,rfl⟩,by rw[HN.out];rfl,fun s' hs=>by rw[HN.out] at hs;cases hs⟩):p:=h
theorem M82 (h:p:=by
 have hs1:=HS1.out
 obtain⟨r1,r2,r3,r4⟩:=HX.out W1 (Below.refl _ _)
 have o:∀c,c<w.heap.size+4->c≠w.heap.size->W.heap[c]?=W1.heap[c]?:=fun c hc hne=>(hW.block c O0).trans (by rw[hW2];exact RowKit.Below.heap_setCell _ _ _ _ hne)
 refine⟨(hW.block _ O0).trans ?_,(o _ O0 O0).trans r2,(o _ O0 O0).trans r3,(o _ O0 O0).trans r4⟩
 rw[hW2];exact r1.set3):p:=h
theorem M119 (h:p:=by
 try simp only[ap]
 refine rd1 2 rfl fun K hK=> ?_
 obtain⟨cx,-⟩:=HCX.out zw01 HB01.out
 go_simp
 refine hK.out _ _ (HKS.out _ HB01.out) (fun hH01L=> ?_)
 clear hK K hH01
 try simp only[ap]
 clear cx
 exact M26):p:=h
theorem M135 (h:p:=by
 obtain⟨-,d2,-,d4⟩:=HX2.out W (HBu1.out W hW)
 obtain⟨g0,g1,g2,g3,g4,g5,g6,g7,g8,g9,g10⟩:=EBox.cells d4
 exact⟨g1,g3,g4,g6,g7,g8,g9,g10,(BB.cells d2).2.1⟩):p:=h
theorem M170 (h:p:=by
 obtain⟨g0,g1,g2,g3,g4,g5,g6,g7,g8,g9,g10⟩:=EBox.cells d4'
 exact⟨g1,g3,g4,g6,g7,g8,g9,g10,(BB.cells d2').2.1⟩):p:=h
theorem Q391.Y389 (h:p:=by
 refine hK.out _ _ (HKS.out _ HB01.out) (fun hH01=> ?_)
 clear hK K hH0
 exact M119):p:=h
theorem Q437.Y436 (h:p:=by
 refine hK.out _ _ (HKS.out _ HB1.out) (fun hH1L=> ?_)
 clear hK K hHL
 try simp only[ap]
 exact M66):p:=h
theorem Q460.Y458 (h:p:=by
 refine hK.out _ _ (HKS.out _ HB01.out) (fun hH01=> ?_)
 clear hK K hH1
 exact M119):p:=h
theorem Q438.Y436 (h:p:=by
 refine hK.out _ _ (HKS.out _ HB1.out) (fun hH1=> ?_)
 clear hK K hHeld
 try simp only[ap]
 refine rd2 0 2 rfl rfl (fun K hK=> ?_) fun K hK=> ?_
 ·open Q460 in exact M458
 ·obtain ⟨cx, -⟩ := HCX.out zw1 HB1.out
  go_simp
  refine hK.out _ _ (HKS.out _ HB1.out) (fun hH1L=> ?_)
  clear hK K hH1
  try simp only[ap]
  clear cx
  exact M66):p:=h
theorem M436 (h:p:=by
 go_simp
 obtain⟨zw1,hc1⟩:∃u,u=u0.alloc (.cells (#[Value.int .u64 (id:Nat),.string name,.int .i64 vk,.int .i64 vn,.float .f64 vf,.string vs,.slice A0 m0 c0,.int .i64 0,.bool false,.int .u64 (at':Nat)]:Array Value) 39):=⟨_,rfl⟩
 rw[<-hc1]
 obtain⟨ib,hib⟩:∃i,i=u0.heap.size:=⟨_,rfl⟩
 rw[<-hib]
 have hbz:Below u0.heap.size u0 zw1:=by rw[hc1];exact Rl
 have HB1:Hid (Below u0.heap.size u0 zw1):=U (HBu.out.trans (hbz.mono HBu.out.size))
 have one_1:Hid (CIn zw1 (.slice (some ⟨ib,0,none⟩) 1 1) 1 10 (#[Value.int .u64 (id:Nat),.string name,.int .i64 vk,.int .i64 vn,.float .f64 vf,.string vs,.slice A0 m0 c0,.int .i64 0,.bool false,.int .u64 (at':Nat)]:Array Value).toList):=U (by rw[hc1,hib];exact CIn.new u0 _ _ rfl HONE.out)
 clear hbz
 replace hc1:=U hc1
 replace hib:=U hib
 exact Y436):p:=h
theorem Q512.Y511 (h:p:=by
 refine hK.out _ _ (HKS.out _ HB0.out) (fun hH0=> ?_)
 clear hK K hHeld
 try simp only[ap]
 refine rd2 2 13 rfl rfl (fun K hK=> ?_) fun K hK=> ?_
 ·obtain ⟨cx, -⟩ := HCX.out zw0 HB0.out
  go_simp
  refine hK.out _ _ (HKS.out _ HB0.out) (fun hH0L=> ?_)
  clear hK K hH0
  try simp only[ap]
  clear cx
  exact M20
 ·open Q391 in exact M389):p:=h
theorem Q513.Y511 (h:p:=by
 refine hK.out _ _ (HKS.out _ HB0.out) (fun hH0L=> ?_)
 clear hK K hHL
 try simp only[ap]
 exact M20):p:=h
theorem M511 (h:p:=by
 go_simp
 obtain⟨zw0,hc0⟩:∃u,u=u0.alloc (.cells #[] 39):=⟨_,rfl⟩
 rw[<-hc0]
 obtain⟨ia,hia⟩:∃i,i=u0.heap.size:=⟨_,rfl⟩
 rw[<-hia]
 have hbz:Below u0.heap.size u0 zw0:=by rw[hc0];exact Rl
 have HB0:Hid (Below u0.heap.size u0 zw0):=U (HBu.out.trans (hbz.mono HBu.out.size))
 have own0_0:Hid (zw0.ownsRow u0.heap.size 39 10 (.slice (some ⟨ia,0,none⟩) 0 0) 0 []):=U (by rw[hc0,hia];exact World.ownsRow_lit u0 #[] 0 HBu.out.size (Nat.zero_le _) O3)
 clear hbz
 replace hc0:=U hc0
 replace hia:=U hia
 exact Y511):p:=h
set_option maxRecDepth 100000 in
set_option maxHeartbeats 4000000 in
theorem cmd7_any (s:ST)(f:ByteArray)(Bu:Option Addr)(nu cu:Nat)(uk ut um:Value)(b:BT)(A:Option Addr)(cap:Nat)(w:World)(h:OIn X w s uk ut um b A cap)(i:Nat)(hp:i<b.es.length)(he:FW (b.es[i]'hp))(hk:b.es[i].k=7) :
  Calls Tryz.prog 82 #[.agg (rhC f (.slice Bu nu cu) s.closed s.next uk ut um),.agg #[.string b.flow,.int .u64 (b.at':Nat),.slice A b.es.length cap],.int .i64 (i:Nat)] w (PT X w f (.slice Bu nu cu) (Dc b.at' (decide (i+1=b.es.length)) (b.es[i]'hp) s)):=by
 obtain⟨Ak,nk,ck,rfl⟩:∃A n c,uk= .slice A n c:=by obtain⟨xs,⟨-,-,A,c,e,-⟩,-⟩:=h.rs.keys;exact⟨_,_,_,e⟩
 obtain⟨Aq,nt,ct,rfl⟩:∃A n c,ut= .slice A n c:=by obtain⟨xs,⟨-,-,A,c,e,-⟩,-⟩:=h.rs.tasks;exact⟨_,_,_,e⟩
 obtain⟨Am,nm,cm,rfl⟩:∃A n c,um= .slice A n c:=by obtain⟨xs,⟨-,-,A,c,e,-⟩,-⟩:=h.rs.timers;exact⟨_,_,_,e⟩
 obtain⟨eb,eo,lo0,hi0,vk,vn,vf,vs,A0,m0,c0,rfl,heb,hff,hrep,hhi,z0,z1,z2,z3,z4,z5,z6,z7,z8,z9,z10⟩:=h.evs.get i hp
 have hrepV:=hrep
 replace hrep:=Rep.leads hrep (Df X w)
 rw[DM] at heb hhi
 replace z0:=(Df X w).cell z0
 replace z1:=(Df X w).cell z1
 replace z2:=(Df X w).cell z2
 replace z3:=(Df X w).cell z3
 replace z4:=(Df X w).cell z4
 replace z5:=(Df X w).cell z5
 replace z6:=(Df X w).cell z6
 replace z7:=(Df X w).cell z7
 replace z8:=(Df X w).cell z8
 replace z9:=(Df X w).cell z9
 replace z10:=(Df X w).cell z10
 have hle:=h.evs.le
 have hcm:=h.evs.cap_le
 simp only[maxLen] at hcm
 obtain⟨m,hm⟩:=Rm (b.es.length)
 obtain⟨ff,hf0⟩:=Rm (b.flow)
 obtain⟨at',hat⟩:∃at',at'=b.at':=⟨_,rfl⟩
 obtain⟨e,hee⟩:=Rm (b.es[i]'hp)
 have hbat:=h.at'
 rw[<-hat] at hbat
 rw[<-hee] at hff hrep hrepV z0 z1 z2 z3 z4 z5 he hk ⊢
 have HRV:=U h.rs;have HRS:=U (h.rs.leads (Df X w));have HXB:=U h.xb;have HFI:=U h.fine;have hn1:=h.n1;have hn2:=h.n2;have hn3:=h.n3;have hn4:=h.n4
 rw[<-hm] at hle ⊢
 rw[<-hf0, <-hat]
 have hmp:i<m:=O0
 clear h hee hat hf0 hm hp
 obtain⟨k,id,en,ea,name,text,ev⟩:=e
 have hid:=he.f.i1
 dsimp only at hid hk hrep hrepV hff z0 z1 z2 z3 z4 z5 z6 z7 z8 z9 z10
 obtain rfl:k=7:=hk
 have HE:=U he
 obtain⟨W0,hW0⟩:=Rm (((w.alloc (.cells (rhC f (.slice Bu nu cu) s.closed s.next (.slice Ak nk ck) (.slice Aq nt ct) (.slice Am nm cm)) 84)).alloc (.cells #[.string ff,.int .u64 (at':Nat),.slice (some ⟨eb,eo,none⟩) m cap] 64)).alloc (.cells (rhC ⟨#[]⟩ (.slice none 0 0) 0 0 (.slice none 0 0) (.slice none 0 0) (.slice none 0 0)) 84))
 obtain⟨W1,hW1⟩:=Rm (W0.alloc (.cells (Db ⟨7,id,en,ea,name,text,ev⟩ vk vn vf vs A0 m0 c0) 61))
 have hs0:W0.heap.size=w.heap.size+3:=by rw[hW0];simp
 have hs1:W1.heap.size=w.heap.size+4:=by rw[hW1];simp[hs0]
 have hb0:Below w.heap.size w W0:=by rw[hW0];exact(Rl.alloc O3 _).alloc (by simp;omega) _
 have hb1:Below w.heap.size w W1:=by rw[hW1];exact hb0.alloc O0 _
 have hx0:W0.heap[w.heap.size]?=some (.cells (rhC f (.slice Bu nu cu) s.closed s.next (.slice Ak nk ck) (.slice Aq nt ct) (.slice Am nm cm)) 84 (0,0)):=by rw[hW0];exact(heap_alloc_old _ _ (by simp;omega)).trans ((heap_alloc_old _ _ O3).trans (heap_alloc_new w _))
 have hx1:W0.heap[w.heap.size+1]?=some (.cells #[.string ff,.int .u64 (at':Nat),.slice (some ⟨eb,eo,none⟩) m cap] 64 (0,0)):=by
  exact M56
 have hx2:W0.heap[w.heap.size+2]?=some (.cells (rhC ⟨#[]⟩ (.slice none 0 0) 0 0 (.slice none 0 0) (.slice none 0 0) (.slice none 0 0)) 84 (0,0)):=by
  exact M40
 have HX:Hid (∀W,Below W1.heap.size W1 W->RX W w.heap.size f (.slice Bu nu cu) s.closed s.next (.slice Ak nk ck) (.slice Aq nt ct) (.slice Am nm cm)/\BB W (w.heap.size+1) ff at' (some ⟨eb,eo,none⟩) m cap/\RX W (w.heap.size+1+1) ⟨#[]⟩ (.slice none 0 0) 0 0 (.slice none 0 0) (.slice none 0 0) (.slice none 0 0)/\EBox W (w.heap.size+3) (Db ⟨7,id,en,ea,name,text,ev⟩ vk vn vf vs A0 m0 c0)):=U fun W hW=>by
  exact M48
 have HBW:Hid (∀W,Below W1.heap.size W1 W->Below w.heap.size w W):=U fun W hW=>hb1.trans (hW.mono hb1.size)
 have HS1:=U hs1;have HB1:=U hb1
 obtain⟨y0,y1,y2,-⟩:=BB.cells (show BB W0 (w.heap.size+1) ff at' (some ⟨eb,eo,none⟩) m cap from hx1)
 obtain⟨x0,x1,x2,x3,x4,x5,x6,-⟩:=(HX.out W1 (Below.refl _ _)).1.cells
 have e0:=(hb0.cell (p:=⟨eb,eo+i*11,none⟩) heb).trans z0
 have e1:=(hb0.cell (p:=⟨eb,eo+i*11+1,none⟩) heb).trans z1
 have e2:=(hb0.cell (p:=⟨eb,eo+i*11+2,none⟩) heb).trans z2
 have e3:=(hb0.cell (p:=⟨eb,eo+i*11+3,none⟩) heb).trans z3
 have e4:=(hb0.cell (p:=⟨eb,eo+i*11+4,none⟩) heb).trans z4
 have e5:=(hb0.cell (p:=⟨eb,eo+i*11+5,none⟩) heb).trans z5
 have e6:=(hb0.cell (p:=⟨eb,eo+i*11+6,none⟩) heb).trans z6
 have e7:=(hb0.cell (p:=⟨eb,eo+i*11+7,none⟩) heb).trans z7
 have e8:=(hb0.cell (p:=⟨eb,eo+i*11+8,none⟩) heb).trans z8
 have e9:=(hb0.cell (p:=⟨eb,eo+i*11+9,none⟩) heb).trans z9
 have e10:=(hb0.cell (p:=⟨eb,eo+i*11+10,none⟩) heb).trans z10
 have HREP:=U hrep;have HREPV:=U hrepV;have HHI:=U hhi
 unfold rhC at hW0 ⊢
 unfold Db at hW1
 dsimp only at hW1
 rw[show ((0:Nat):Int)=0 from rfl] at hW0
 have hWs:=U hs0
 clear hs0 hs1 hb0 hb1 hx0 hx1 hx2 z0 z1 z2 z3 z4 z5 z6 z7 z8 z9 z10 hrep hrepV hhi hff he heb
 replace hW0:=U hW0
 replace hW1:=U hW1
 obtain⟨al,hal⟩:=Rm (decide (i+1=m))
 have hm1:((i:Int)==(m:Int)-1)=al:=by
  rw[hal]
  by_cases q:i+1=m
  ·rw[decide_eq_true q,beq_iff_eq];omega
  ·exact M197
 rw[<-hal]
 have HAL:=U hal
 clear hal
 go_enter Tryz.func82,Tryz.ntmps82
 go_upto_region 1 with fail
 rw[<-hW0.out]
 go_upto_region 2 with fail
 rw[<-hW1.out]
 rw[show W0.heap.size=w.heap.size+3 from hWs.out]
 clear y0 y1 y2 e0 e1 e2 e3 e4 e5 e6 e7 e8 e9 e10
 clear x0 x1 x2 x3 x4 x5 x6
 obtain⟨x0,x1,x2,x3,x4,x5,x6,xf⟩:=(HX.out W1 (Below.refl _ _)).1.cells
 obtain⟨y0,y1,y2,-⟩:=(HX.out W1 (Below.refl _ _)).2.1.cells
 obtain⟨e0,e1,e2,e3,e4,e5,e6,e7,e8,e9,e10⟩:=EBox.cells (HX.out W1 (Below.refl _ _)).2.2.2
 dsimp only at e0 e1 e2 e3 e4 e5
 obtain⟨q0,q1,q2,q3,q4,q5,q6,qf⟩:=(HX.out W1 (Below.refl _ _)).2.2.1.cells
 rw[show ((0:Nat):Int)=0 from rfl] at q3
 have qf0:=qf 0;have qf1:=qf 1;have qf2:=qf 2;have qf3:=qf 3;have qf4:=qf 4;have qf5:=qf 5;have qf6:=qf 6
 clear qf
 by_cases h1:id=s.next
 rotate_left
 ·have HN : Hid (Dc at' al ⟨7, id, en, ea, name, text, ev⟩ s = none) := U (by simp [Dc, h1])
  exact M74
 have k1:((id:Int)==(s.next:Int))=true:=by simp;omega
 have k1':((id:Int) != (s.next:Int))=false:=by simp;omega
 have H1:=U h1
 clear h1
 obtain⟨xs,hcinV,hst⟩:=HRV.out.tasks
 have hcin:=hcinV.leads (Df X w)
 clear hcinV
 have HCI:=U hcin;have HST:=U hst
 obtain⟨rfl,hkc⟩:nt=s.tasks.length/\s.tasks.length<=ct:=by obtain⟨-,-,A9,cap9,heq9,hle9,-,-⟩:=hcin;injection heq9 with a1 a2 a3;exact⟨a2,by rw[a3];exact hle9⟩
 obtain⟨i0,hi0,hz0,hz1,hz2⟩:=info_parts Tryz.infoRt
 have HSZ:=U (Od hi0 hz1)
 have HONE:Hid (∀x∈(#[Value.int .u64 (id:Nat),.string name,.int .i64 vk,.int .i64 vn,.float .f64 vf,.string vs,.slice A0 m0 c0,.int .i64 0,.bool false,.int .u64 (at':Nat)]:Array Value).toList,x.oneCell'=true):=U (by intro x hx;simp at hx;rcases hx with rfl|rfl|rfl|rfl|rfl|rfl|rfl|rfl|rfl|rfl<;>rfl)
 clear hcin hst
 obtain⟨L,hL⟩:=Rm (s.tasks.length)
 have HLL:=U hL
 obtain⟨W2,hW2⟩:=Rm (W1.setCell ⟨w.heap.size,3,none⟩ (.int .u64 ((s.next:Int)+1)))
 rw[<-hL] at hkc hn1 HX x5
 have hb2:Below w.heap.size w W2:=by rw[hW2];exact(HBW.out W1 (Below.refl _ _)).setCell (p:=⟨w.heap.size,3,none⟩) (Nat.le_refl _) _
 have hz2':W2.heap.size=W1.heap.size:=by rw[hW2];simp[World.setCell]
 have HX2:Hid (∀W,Below W2.heap.size W2 W->RX W w.heap.size f (.slice Bu nu cu) s.closed (s.next+1) (.slice Ak nk ck) (.slice Aq L ct) (.slice Am nm cm)/\BB W (w.heap.size+1) ff at' (some ⟨eb,eo,none⟩) m cap/\RX W (w.heap.size+1+1) ⟨#[]⟩ (.slice none 0 0) 0 0 (.slice none 0 0) (.slice none 0 0) (.slice none 0 0)/\EBox W (w.heap.size+3) (Db ⟨7,id,en,ea,name,text,ev⟩ vk vn vf vs A0 m0 c0)):=U fun W hW=>by
  exact M82
 have HBW2:Hid (∀W,Below W2.heap.size W2 W->Below w.heap.size w W):=U fun W hW=>hb2.trans (hW.mono hb2.size)
 have HZ22:=U hz2'
 clear hL hb2 hz2'
 replace hW2:=U hW2
 have kn:=IntWalk.u64_in ((s.next:Int)+1) O0
 go_upto_region 9 with fail
 rw[<-hW2.out]
 clear kn
 clear x0 x1 x2 x3 x4 x5 x6 xf y0 y1 y2 e0 e1 e2 e3 e4 e5 e6 e7 e8 e9 e10 q0 q1 q2 q3 q4 q5 q6 qf0 qf1 qf2 qf3 qf4 qf5 qf6
 obtain⟨u0,hu0⟩:∃u,u=W2.drew:=⟨_,rfl⟩
 have HBu1:Hid (∀W,Below u0.heap.size u0 W->Below W2.heap.size W2 W):=U fun W hW=>by rw[hu0] at hW;exact(Da (Below.refl W2.heap.size W2)).trans (hW.mono (Nat.le_refl _))
 have HBu0:Hid (W1.heap.size<=u0.heap.size):=U (by rw[hu0, <-HZ22.out];exact Nat.le_refl _)
 have HBu:Hid (Below u0.heap.size u0 u0):=U (Below.refl _ _)
 have HKS:Hid (∀W,Below u0.heap.size u0 W->(fun W:World=>W.cell? ⟨w.heap.size+3,1,none⟩=some (.int .u64 (id:Nat))/\W.cell? ⟨w.heap.size+3,3,none⟩=some (.int .u64 (ea:Nat))/\W.cell? ⟨w.heap.size+3,4,none⟩=some (.string name)/\W.cell? ⟨w.heap.size+3,6,none⟩=some (.int .i64 vk)/\W.cell? ⟨w.heap.size+3,7,none⟩=some (.int .i64 vn)/\W.cell? ⟨w.heap.size+3,8,none⟩=some (.float .f64 vf)/\W.cell? ⟨w.heap.size+3,9,none⟩=some (.string vs)/\W.cell? ⟨w.heap.size+3,10,none⟩=some (.slice A0 m0 c0)/\W.cell? ⟨w.heap.size+1,1,none⟩=some (.int .u64 (at':Nat))) W):=U fun W hW=>by
  exact M135
 have HKS2:Hid (∀W v,Below u0.heap.size u0 W->(fun W:World=>W.cell? ⟨w.heap.size+3,1,none⟩=some (.int .u64 (id:Nat))/\W.cell? ⟨w.heap.size+3,3,none⟩=some (.int .u64 (ea:Nat))/\W.cell? ⟨w.heap.size+3,4,none⟩=some (.string name)/\W.cell? ⟨w.heap.size+3,6,none⟩=some (.int .i64 vk)/\W.cell? ⟨w.heap.size+3,7,none⟩=some (.int .i64 vn)/\W.cell? ⟨w.heap.size+3,8,none⟩=some (.float .f64 vf)/\W.cell? ⟨w.heap.size+3,9,none⟩=some (.string vs)/\W.cell? ⟨w.heap.size+3,10,none⟩=some (.slice A0 m0 c0)/\W.cell? ⟨w.heap.size+1,1,none⟩=some (.int .u64 (at':Nat))) (W.setCell ⟨w.heap.size,5,none⟩ v)):=U fun W v hW=>by
  obtain⟨-,d2,-,d4⟩:=HX2.out W (HBu1.out W hW)
  have d4':EBox (W.setCell ⟨w.heap.size,5,none⟩ v) (w.heap.size+3) (Db ⟨7,id,en,ea,name,text,ev⟩ vk vn vf vs A0 m0 c0):=(RowKit.Below.heap_setCell _ _ _ _ (by show w.heap.size+3≠w.heap.size;omega)).trans d4
  have d2':BB (W.setCell ⟨w.heap.size,5,none⟩ v) (w.heap.size+1) ff at' (some ⟨eb,eo,none⟩) m cap:=(RowKit.Below.heap_setCell _ _ _ _ (by show w.heap.size+1≠w.heap.size;omega)).trans d2
  exact M170
 have HCX:Hid (∀W,Below u0.heap.size u0 W->W.cell? ⟨w.heap.size,5,none⟩=some (.slice Aq L ct)/\W.frozen? ⟨w.heap.size,5,none⟩=false):=U fun W hW=>⟨(HX2.out W (HBu1.out W hW)).1.cells.2.2.2.2.2.1,(HX2.out W (HBu1.out W hW)).1.cells.2.2.2.2.2.2.2 5⟩
 have HIN:Hid (∀W,Below u0.heap.size u0 W->CIn W (.slice Aq L ct) L 10 xs):=U fun W hW=>by rw[HLL.out];exact HCI.out.later (HBW2.out W (HBu1.out W hW))
 have HOUT:Hid (∀(s1:ST) (bb:Bool) (cF W7:World) (Ar:Option Addr) (cr:Nat),(bb=true->(some {s with tasks:=s.tasks++ [⟨id,name,ev,0,false,at'⟩],next:=s.next+1}:Option ST)=some s1)->((some {s with tasks:=s.tasks++ [⟨id,name,ev,0,false,at'⟩],next:=s.next+1}:Option ST)).isSome=true->Dc at' al ⟨7,id,en,ea,name,text,ev⟩ s=(if bb=true then (some {s with tasks:=s.tasks++ [⟨id,name,ev,0,false,at'⟩],next:=s.next+1}:Option ST) else none)->cF.ownsRow u0.heap.size 39 10 (.slice Ar (L+1) cr) (L+1) (xs++(#[Value.int .u64 (id:Nat),.string name,.int .i64 vk,.int .i64 vn,.float .f64 vf,.string vs,.slice A0 m0 c0,.int .i64 0,.bool false,.int .u64 (at':Nat)]:Array Value).toList)->(∀r,rowOf Ar=some r->u0.heap.size<=r)->Below u0.heap.size u0 cF->Below w.heap.size w W7->(∀r,r≠w.heap.size->r≠w.heap.size+1+1->W7.heap[r]?=cF.heap[r]?)->
   PT X w f (.slice Bu nu cu) (Dc at' al ⟨7,id,en,ea,name,text,ev⟩ s) (.returned (.tuple #[.agg #[.string f,.slice Bu nu cu,.int .i64 s.closed,.int .u64 ((s.next:Int)+1),.slice Ak nk ck,.slice Ar (L+1) cr,.slice Am nm cm],.bool bb])) W7):=U fun s1 bb cF W7 Ar cr hs1 hsm hap ho hbr hbF hb7 hm7=>by
  have hs:=HS1.out
  have hu:=HBu0.out
  have ho7:=Dx (w':=W7) ho (fun r hr=>by
   have:=hbr r hr
   exact hm7 r O0 O0)
  refine⟨hb7,s.closed,s.next+1,.slice Ak nk ck,.slice Ar (L+1) cr,.slice Am nm cm,⟨_,_,_,rfl⟩,⟨_,_,_,rfl⟩,⟨_,_,_,rfl⟩,?_,fun s' hs=> ?_⟩
  ·rw[hap];cases bb<;>rfl
  rw[hap] at hs
  cases bb with
  | false=>cases hs
  | true=>
  cases hs
  refine⟨rfl,rfl,⟨(HRV.out.leads (Dt X hb7)).keys,⟨xs++(#[Value.int .u64 (id:Nat),.string name,.int .i64 vk,.int .i64 vn,.float .f64 vf,.string vs,.slice A0 m0 c0,.int .i64 0,.bool false,.int .u64 (at':Nat)]:Array Value).toList,?_,?_⟩,(HRV.out.leads (Dt X hb7)).timers⟩⟩
  ·have e : (s.tasks ++ [(⟨id, name, ev, 0, false, at'⟩ : TK)]).length = L + 1 := by rw [List.length_append, <- HLL.out]; rfl
   dsimp only
   rw[e]
   refine CIn.of_veil ho7 ?_ (by intro c hc;have:=HXB.out c hc;have:=HBu0.out;have:=HS1.out;omega)
   intro x hx
   rcases List.mem_append.1 hx with q|q
   ·exact HCI.out.2.1 x q
   ·exact HONE.out x q
  ·exact(HST.out.leads (Dt X hb7)).append (TkC.one (t:=⟨id,name,ev,0,false,at'⟩) ⟨hid,Int.le_refl 0,(by show (0:Int)<=2147483647;decide),hbat,HE.out.f.s1⟩ (Rep.leads HREPV.out (Dt X hb7)) (by rw[DM];exact Nat.le_trans HHI.out hb7.size))
 have HN:Hid (Dc at' al ⟨7,id,en,ea,name,text,ev⟩ s=(some {s with tasks:=s.tasks++ [⟨id,name,ev,0,false,at'⟩],next:=s.next+1}:Option ST)):=U (by simp[Dc,H1.out])
 refine wp_region_noPanic ?_
 refine wp_region_held_drew (S:=(fun W:World=>W.cell? ⟨w.heap.size+3,1,none⟩=some (.int .u64 (id:Nat))/\W.cell? ⟨w.heap.size+3,3,none⟩=some (.int .u64 (ea:Nat))/\W.cell? ⟨w.heap.size+3,4,none⟩=some (.string name)/\W.cell? ⟨w.heap.size+3,6,none⟩=some (.int .i64 vk)/\W.cell? ⟨w.heap.size+3,7,none⟩=some (.int .i64 vn)/\W.cell? ⟨w.heap.size+3,8,none⟩=some (.float .f64 vf)/\W.cell? ⟨w.heap.size+3,9,none⟩=some (.string vs)/\W.cell? ⟨w.heap.size+3,10,none⟩=some (.slice A0 m0 c0)/\W.cell? ⟨w.heap.size+1,1,none⟩=some (.int .u64 (at':Nat)))) O2 ?_ (fun hHeld=> ?_)
 ·rw[<-hu0];exact HKS.out _ (Below.refl _ _)
 rw[<-hu0] at hHeld
 rw[<-hu0]
 replace hu0:=U hu0
 refine tk 1 rfl ?_
 refine tk 4 rfl ?_
 refine tk 5 rfl ?_
 refine tk 6 rfl ?_
 refine tk 7 rfl ?_
 refine tk 8 rfl ?_
 refine tk 9 rfl ?_
 refine tk 10 rfl ?_
 refine tk 11 rfl ?_
 refine tk 12 rfl ?_
 refine wpAnyH_ready (rs:=[0,2,13]) O2 O3 ?_
 refine Dh rfl (fun K hK=> ?_) (Dh rfl (fun K hK=> ?_) (Dh rfl (fun K hK=> ?_) AllReadyH.nil))
 ·open Q512 in exact M511
 ·obtain ⟨cx, -⟩ := HCX.out u0 HBu.out
  go_simp
  refine hK.out _ _ (HKS.out _ HBu.out) (fun hHL=> ?_)
  clear hK K hHeld
  try simp only[ap]
  clear cx
  refine rd2 0 13 rfl rfl (fun K hK=> ?_) fun K hK=> ?_
  ·open Q513 in exact M511
  ·open Q437 in exact M436
 ·open Q438 in exact M436
end Hi
end Go.Proofs.YtaahfiopdoinkaaGreat
