/- A history's state: clone; what an event does. -/
import Derived.Laws.Rows
import Derived.Laws.IdiomRangeMap
import Derived.Test.YtaahfiopdoinkaaGreatTwah
import Derived.Test.YtaahfiopdoinkaaGreatTwag
import Derived.Deep.CutRange
import Derived.Shelf.SlMaps.Clone
import Derived.Ground.SlmcProg
import Derived.Test.YtaahfiopdoinkaaGreatTwaj
import Derived.Deep.AppendLies
set_option maxRecDepth 100000
set_option maxHeartbeats 12000000
variable {p : Prop}
set_option linter.unusedVariables false
set_option linter.unusedSimpArgs false
open Go.RowKit
namespace Go.Proofs.YtaahfiopdoinkaaGreat
open Go.RowKit Go.Shelf
def Tryz.laysClT_ren : Go.Shelf.Ren:=⟨fun|5=>136|7=>171|n=>n,fun|23=>119|25=>23|3=>36|4=>4|20=>20|n=>n,fun|n=>n⟩
theorem Tryz.laysClT : Go.Proofs.SlLaysW.n5 Tryz.prog Tryz.laysClT_ren := {
  mixed:=by kernel_rfl
  f5:=⟨Tryz.f136.name,by decide,Tryz.func136.trans (congrArg some (by kernel_rfl))⟩
  f7:=Tryz.func171.trans (congrArg some (by kernel_rfl))
  t4:=Tryz.underlying4
  a4:=Tryz.isAgg4
  z4:=Tryz.sizeOf4
  v4:=Tryz.zeroValue4
  t20:=Tryz.underlying20
  a20:=Tryz.isAgg20
  z20:=Tryz.sizeOf20
  v20:=Tryz.zeroValue20
  t23:=Tryz.underlying119
  a23:=Tryz.isAgg119
  z23:=Tryz.sizeOf119
  v23:=Tryz.zeroValue119}
def Tryz.laysClM_ren : Go.Shelf.Ren:=⟨fun|5=>137|7=>171|n=>n,fun|23=>120|25=>23|3=>89|4=>4|20=>20|n=>n,fun|n=>n⟩
theorem Tryz.laysClM : Go.Proofs.SlLaysW.n5 Tryz.prog Tryz.laysClM_ren := {
  mixed:=by kernel_rfl
  f5:=⟨Tryz.f137.name,by decide,Tryz.func137.trans (congrArg some (by kernel_rfl))⟩
  f7:=Tryz.func171.trans (congrArg some (by kernel_rfl))
  t4:=Tryz.underlying4
  a4:=Tryz.isAgg4
  z4:=Tryz.sizeOf4
  v4:=Tryz.zeroValue4
  t20:=Tryz.underlying20
  a20:=Tryz.isAgg20
  z20:=Tryz.sizeOf20
  v20:=Tryz.zeroValue20
  t23:=Tryz.underlying120
  a23:=Tryz.isAgg120
  z23:=Tryz.sizeOf120
  v23:=Tryz.zeroValue120}
def Tryz.laysClK_ren : Go.Shelf.Ren:=⟨fun|5=>138|7=>171|n=>n,fun|23=>121|25=>9|3=>4|4=>4|20=>20|n=>n,fun|n=>n⟩
theorem Tryz.laysClK : Go.Proofs.SlLaysW.n5 Tryz.prog Tryz.laysClK_ren := {
  mixed:=by kernel_rfl
  f5:=⟨Tryz.f138.name,by decide,Tryz.func138.trans (congrArg some (by kernel_rfl))⟩
  f7:=Tryz.func171.trans (congrArg some (by kernel_rfl))
  t4:=Tryz.underlying4
  a4:=Tryz.isAgg4
  z4:=Tryz.sizeOf4
  v4:=Tryz.zeroValue4
  t20:=Tryz.underlying20
  a20:=Tryz.isAgg20
  z20:=Tryz.sizeOf20
  v20:=Tryz.zeroValue20
  t23:=Tryz.underlying121
  a23:=Tryz.isAgg121
  z23:=Tryz.sizeOf121
  v23:=Tryz.zeroValue121}
namespace Hi
open _root_.Go.Proofs.YtaahfiopdoinkaaGreat.Nm (Dk De)
open Vt (VT Rep Da)
open Ev (EV Dj Db Dn)
open Cm (EvsIn)
variable {X X' : Nat -> Prop} {u v w w' V V' : World} {b n : Nat} {ts : List TK} {l : List (Nat × Nat)} {ks : List ByteArray}
theorem M91 (h:p:=by
 refine hcon.mono ?_
 rintro e w' ⟨rfl,rfl⟩
 exact⟨rfl,⟨D,⟨es,clock,heap_alloc_new _ _,F⟩,h2⟩,(Below.refl _ _).alloc (Nat.le_refl _) _,by simp⟩):p:=h
theorem clone_t (h:TMap w V b n ts):Calls Tryz.prog 136 #[.map (some b)] w fun e w'=>e= .returned (.map (some w.heap.size))/\TMap w' V w.heap.size n ts/\Below w.heap.size w w'/\w'.heap.size=w.heap.size+1:=by
 obtain⟨D,⟨es,clock,hb,F⟩,h2⟩:=h
 have hcon:=AnyW.maps_Clone Tryz.laysClT b es clock w hb
 change Calls Tryz.prog 136 _ _ _ at hcon
 exact M91
theorem clone_m (h:MMap w b n l):Calls Tryz.prog 137 #[.map (some b)] w fun e w'=>e= .returned (.map (some w.heap.size))/\MMap w' w.heap.size n l/\Below w.heap.size w w'/\w'.heap.size=w.heap.size+1:=by
 obtain⟨D,⟨es,clock,hb,F⟩,h2⟩:=h
 have hcon:=AnyW.maps_Clone Tryz.laysClM b es clock w hb
 change Calls Tryz.prog 137 _ _ _ at hcon
 exact M91
theorem clone_k (h:KMap w b n ks):Calls Tryz.prog 138 #[.map (some b)] w fun e w'=>e= .returned (.map (some w.heap.size))/\KMap w' w.heap.size n ks/\Below w.heap.size w w'/\w'.heap.size=w.heap.size+1:=by
 obtain⟨D,⟨es,clock,hb,F⟩,h2⟩:=h
 have hcon:=AnyW.maps_Clone Tryz.laysClK b es clock w hb
 change Calls Tryz.prog 138 _ _ _ at hcon
 exact M91
def ClSt (V w:World)(n next:Nat)(closed:Int)(s:ST)(W:World):Prop:=∃ct cm ck,W.heap[w.heap.size]?=some (.cells (stC ct cm ck next closed) 123 (0,0))/\W.heap[w.heap.size+1]?=some (.cells #[.map none,.map none,.map none,.int .u64 0,.int .i64 0] 123 (0,0))/\
 Maps3 W V ct cm ck n s/\Below w.heap.size w W/\(w.heap.size+2<=ct/\w.heap.size+2<=cm/\w.heap.size+2<=ck)/\ct≠cm/\ct≠ck/\cm≠ck
theorem done_cl {W0 W1 W2 W3 : World} {s : ST} {bt bm bk next : Nat} {closed : Int} (gz : W0.heap.size = w.heap.size + 2) (gb : Below w.heap.size w W0) (h3 : Below W0.heap.size W0 W3)
  (hg:W3.heap[w.heap.size]?=some (.cells (stC bt bm bk next closed) 123 (0,0))/\W3.heap[w.heap.size+1]?=some (.cells #[.map none,.map none,.map none,.int .u64 0,.int .i64 0] 123 (0,0)))
  (m1:TMap W1 V W0.drew.heap.size n s.tasks) (m2:MMap W2 W1.heap.size n s.timers) (m3:KMap W3 W2.heap.size n s.keys) (s1:W1.heap.size=W0.drew.heap.size+1) (s2:W2.heap.size=W1.heap.size+1) (s3:W3.heap.size=W2.heap.size+1)
  (q2:Below W1.heap.size W1 W2) (q3:Below W2.heap.size W2 W3) :
  ClSt V w n next closed s (((W3.setCell ⟨w.heap.size,0,none⟩ (.map (some W0.heap.size))).setCell ⟨w.heap.size,1,none⟩ (.map (some W1.heap.size))).setCell ⟨w.heap.size,2,none⟩ (.map (some W2.heap.size))):=by
 have e0:W0.drew.heap.size=W0.heap.size:=rfl
 rw[e0] at m1 s1
 have hset:∀k:Nat,k≠w.heap.size->(((W3.setCell ⟨w.heap.size,0,none⟩ (.map (some W0.heap.size))).setCell ⟨w.heap.size,1,none⟩ (.map (some W1.heap.size))).setCell ⟨w.heap.size,2,none⟩ (.map (some W2.heap.size))).heap[k]?=W3.heap[k]?:=fun k hk=>by
  rw[RowKit.Below.heap_setCell _ _ _ _ hk,RowKit.Below.heap_setCell _ _ _ _ hk,RowKit.Below.heap_setCell _ _ _ _ hk]
 refine⟨W0.heap.size,W1.heap.size,W2.heap.size,?_,(hset _ (by omega)).trans hg.2,⟨m1.keep ?_ (Leads.refl V),m2.keep ?_,m3.keep (hset _ (by omega))⟩,?_,⟨by omega,by omega,by omega⟩,by omega,by omega,by omega⟩
 ·simp[World.setCell,Array.getElem?_modify,hg.1,stC]
 ·exact(hset _ (by omega)).trans ((q3.block _ (by omega)).trans (q2.block _ (by omega)))
 ·exact(hset _ (by omega)).trans (q3.block _ (by omega))
 ·exact(((gb.trans (h3.mono gb.size)).setCell (Nat.le_refl _) _).setCell (Nat.le_refl _) _).setCell (Nat.le_refl _) _
theorem Yr (bt bm bk n:Nat)(s:ST)(next:Nat)(closed:Int)(w V:World)(h:Maps3 w V bt bm bk n s) :
  Calls Tryz.prog 101 #[.agg #[.map (some bt),.map (some bm),.map (some bk),.int .u64 (next:Nat),.int .i64 closed]] w fun e w'=>∃ct cm ck,e= .returned (.agg #[.map (some ct),.map (some cm),.map (some ck),.int .u64 (next:Nat),.int .i64 closed])/\
   Maps3 w' V ct cm ck n s/\Below w.heap.size w w'/\(w.heap.size<=ct/\w.heap.size<=cm/\w.heap.size<=ck)/\ct≠cm/\ct≠ck/\cm≠ck:=by
 obtain⟨W0,hW0⟩:∃W0,W0=(w.alloc (.cells (stC bt bm bk next closed) 123)).alloc (.cells #[.map none,.map none,.map none,.int .u64 0,.int .i64 0] 123):=⟨_,rfl⟩
 have gb:Below w.heap.size w W0:=by rw[hW0];exact((Below.refl _ _).alloc (Nat.le_refl _) _).alloc (by simp) _
 have gz:W0.heap.size=w.heap.size+2:=by rw[hW0];simp
 have g1:W0.heap[w.heap.size]?=some (.cells (stC bt bm bk next closed) 123 (0,0)):=by
  rw[hW0,RowKit.Below.heap_alloc _ _ _ (by simp)];exact heap_alloc_new _ _
 have g2:W0.heap[w.heap.size+1]?=some (.cells #[.map none,.map none,.map none,.int .u64 0,.int .i64 0] 123 (0,0)):=by
  rw[hW0,show w.heap.size+1=(w.alloc (.cells (stC bt bm bk next closed) 123)).heap.size from by simp];exact heap_alloc_new _ _
 have HG:Hid (∀W,Below W0.heap.size W0 W->W.heap[w.heap.size]?=some (.cells (stC bt bm bk next closed) 123 (0,0))/\W.heap[w.heap.size+1]?=some (.cells #[.map none,.map none,.map none,.int .u64 0,.int .i64 0] 123 (0,0))):=
  Lib.hid fun W hW=>⟨(hW.block _ (by omega)).trans g1,(hW.block _ (by omega)).trans g2⟩
 have HT:Hid (∀W,Below W0.heap.size W0 W->Calls Tryz.prog 136 #[.map (some bt)] W fun e w'=>e= .returned (.map (some W.heap.size))/\TMap w' V W.heap.size n s.tasks/\Below W.heap.size W w'/\w'.heap.size=W.heap.size+1):=
  Lib.hid fun W hW=>clone_t (h.tasks.keep ((gb.trans (hW.mono gb.size)).block _ h.tasks.lt) (Leads.refl V))
 have HM:Hid (∀W,Below W0.heap.size W0 W->Calls Tryz.prog 137 #[.map (some bm)] W fun e w'=>e= .returned (.map (some W.heap.size))/\MMap w' W.heap.size n s.timers/\Below W.heap.size W w'/\w'.heap.size=W.heap.size+1):=
  Lib.hid fun W hW=>clone_m (h.timers.keep ((gb.trans (hW.mono gb.size)).block _ h.timers.lt))
 have HK:Hid (∀W,Below W0.heap.size W0 W->Calls Tryz.prog 138 #[.map (some bk)] W fun e w'=>e= .returned (.map (some W.heap.size))/\KMap w' W.heap.size n s.keys/\Below W.heap.size W w'/\w'.heap.size=W.heap.size+1):=
  Lib.hid fun W hW=>clone_k (h.keys.keep ((gb.trans (hW.mono gb.size)).block _ h.keys.lt))
 have GB:=Lib.hid gb;have GZ:=Lib.hid gz
 clear h g1 g2 gb gz
 obtain⟨hg,-⟩:=HG.out W0 (Below.refl _ _)
 obtain⟨c0,c1,c2,-,-,-,-,-,-,-⟩:=DE hg
 clear hg
 unfold stC at hW0
 replace hW0:=Lib.hid hW0
 go_enter Tryz.func101,Tryz.ntmps101
 go_upto_region 1 with fail
 rw[<-hW0.out]
 go_cut [] from 3 to 15 (fun wx=>ClSt V w n next closed s wx)
 case first =>
  go_region_with (first
   | (go_at_call 136;refine(HT.out _ ?_).mono ?_;exact Da (Below.refl _ _);rintro x W1 ⟨rfl,hm1,hb1,hs1⟩;have hB1:Below W0.heap.size W0 W1:=(Da (Below.refl _ _)).trans hb1;have HB1:=Lib.hid hB1;obtain⟨hg,-⟩:=HG.out W1 hB1;obtain⟨p0,p1,p2,-,-,-,-,-,-,-⟩:=DE hg;have HM1:=Lib.hid hm1;have HS1:=Lib.hid hs1;have HQ1:=Lib.hid hb1;clear hg hB1 hm1 hs1 hb1)
   | (go_at_call 137;refine(HM.out _ ?_).mono ?_;exact HB1.out;rintro x W2 ⟨rfl,hm1,hb1,hs1⟩;have hB1:Below W0.heap.size W0 W2:=HB1.out.trans (hb1.mono HB1.out.size);have HB2:=Lib.hid hB1;obtain⟨hg,-⟩:=HG.out W2 hB1;obtain⟨q0,q1,q2,-,-,-,-,-,-,-⟩:=DE hg;have HM2:=Lib.hid hm1;have HS2:=Lib.hid hs1;have HQ2:=Lib.hid hb1;clear hg hB1 hm1 hs1 hb1)
   | (go_at_call 138;refine(HK.out _ ?_).mono ?_;exact HB2.out;rintro x W3 ⟨rfl,hm1,hb1,hs1⟩;have hB1:Below W0.heap.size W0 W3:=HB2.out.trans (hb1.mono HB2.out.size);have HB3:=Lib.hid hB1;obtain⟨hg,hg2⟩:=HG.out W3 hB1;obtain⟨r0,r1,r2,r3,r4,f0,f1,f2,-,-⟩:=DE hg;obtain⟨-,-,-,-,-,e0,e1,e2,e3,e4⟩:=DE hg;have HM3:=Lib.hid hm1;have HS3:=Lib.hid hs1;have HQ3:=Lib.hid hb1;clear hg hg2 hB1 hm1 hs1 hb1))
  all_goals go_wp2_with fail
  all_goals go_meet
  all_goals exact done_cl GZ.out GB.out HB3.out (HG.out _ HB3.out) HM1.out HM2.out HM3.out HS1.out HS2.out HS3.out HQ2.out HQ3.out
 obtain⟨ct,cm,ck,g1,g2,hm,hb,⟨k1,k2,k3⟩,n1,n2,n3⟩:=hcut
 obtain⟨p0,p1,p2,p3,p4,-,-,-,-,-⟩:=DE g1
 have q0:wc.cell? ⟨w.heap.size+1,0,none⟩=some (.map none):=by simp[World.cell?,g2]
 have q1:wc.cell? ⟨w.heap.size+1,1,none⟩=some (.map none):=by simp[World.cell?,g2]
 have q2:wc.cell? ⟨w.heap.size+1,2,none⟩=some (.map none):=by simp[World.cell?,g2]
 have q3:wc.cell? ⟨w.heap.size+1,3,none⟩=some (.int .u64 0):=by simp[World.cell?,g2]
 have q4:wc.cell? ⟨w.heap.size+1,4,none⟩=some (.int .i64 0):=by simp[World.cell?,g2]
 have f0:wc.frozen? ⟨w.heap.size+1,0,none⟩=false:=by simp[World.frozen?,g2]
 have f1:wc.frozen? ⟨w.heap.size+1,1,none⟩=false:=by simp[World.frozen?,g2]
 have f2:wc.frozen? ⟨w.heap.size+1,2,none⟩=false:=by simp[World.frozen?,g2]
 have f3:wc.frozen? ⟨w.heap.size+1,3,none⟩=false:=by simp[World.frozen?,g2]
 have f4:wc.frozen? ⟨w.heap.size+1,4,none⟩=false:=by simp[World.frozen?,g2]
 have HM:=Lib.hid hm;have HB:=Lib.hid hb
 clear hm hb g1 g2
 go_step
 go_wp2_with fail
 refine bodyPost_ret (v:= .agg #[.map (some ct),.map (some cm),.map (some ck),.int .u64 (next:Nat),.int .i64 closed]) (by simp[results,Tryz.results101,go_sem,q0,q1,q2,q3,q4]) rfl ?_
 have hk:∀(W:World) (q:Nat) (u:Value),Below w.heap.size w W/\Maps3 W V ct cm ck n s->Below w.heap.size w (W.setCell ⟨w.heap.size+1,q,none⟩ u)/\Maps3 (W.setCell ⟨w.heap.size+1,q,none⟩ u) V ct cm ck n s:=fun W q u h=>
  ⟨h.1.setCell (Nat.le_succ _) u,h.2.tasks.keep (RowKit.Below.heap_setCell _ _ _ _ (by show ct≠w.heap.size+1;omega)) (Leads.refl V),h.2.timers.keep (RowKit.Below.heap_setCell _ _ _ _ (by show cm≠w.heap.size+1;omega)),h.2.keys.keep (RowKit.Below.heap_setCell _ _ _ _ (by show ck≠w.heap.size+1;omega))⟩
 have hfin:=hk _ 4 (.int .i64 closed) (hk _ 3 (.int .u64 (next:Nat)) (hk _ 2 (.map (some ck)) (hk _ 1 (.map (some cm)) (hk _ 0 (.map (some ct)) ⟨HB.out,HM.out⟩))))
 exact⟨ct,cm,ck,rfl,hfin.2,hfin.1,⟨by omega,by omega,by omega⟩,n1,n2,n3⟩
end Hi
end Go.Proofs.YtaahfiopdoinkaaGreat
namespace Go.Proofs.YtaahfiopdoinkaaGreat
namespace Hi
open _root_.Go.Proofs.YtaahfiopdoinkaaGreat.Nm (Dk De)
open Vt (VT Rep Da DX)
open Ev (EV Dj Db Dn EBox take_drop tk ap rd1 rd2 Dh)
open Cm (rowOf EvsIn EvsAt EvNew)
open Cn (BT BB BtsIn GF DH Asks Gs OK)
variable {X X' Y Y' : Nat -> Prop} {u v w w' V V' : World} {hb bt bm bk n cap : Nat} {A : Option Addr} {h : HM}
theorem Jk (args:Array Value)(w:World):(callFunc 99 args).run Tryz.prog w= .ok (.enter 99 args) w:=by kernel_rfl
theorem Jm (es:List EV):Asks 99 DH es:=by
 intro e _ lo hi vk vn vf vs A m c w hf hv hz
 obtain⟨W0,hW0⟩:∃W0,W0=w.alloc (.cells (Db e vk vn vf vs A m c) 61):=⟨_,rfl⟩
 have hb0:Below w.heap.size w W0:=by rw[hW0];exact(Below.refl _ _).alloc (Nat.le_refl _) _
 have hx0:EBox W0 w.heap.size (Db e vk vn vf vs A m c):=by rw[hW0];exact Gs ..
 have HV:=Lib.hid (Ev.GJ e W0 lo hi _ ⟨hf,vk,vn,vf,vs,A,m,c,rfl,hv.later (hb0.mono hz)⟩ (Nat.le_trans hz hb0.size))
 obtain⟨g0,g1,g2,g3,g4,g5,g6,g7,g8,g9,g10⟩:=EBox.cells hx0
 have HB0:=Lib.hid hb0
 clear hv hf hx0 hb0
 unfold Db at HV hW0 ⊢
 replace hW0:=Lib.hid hW0
 go_enter Tryz.func99,Tryz.ntmps99
 go_upto_region 1 with fail
 rw[<-hW0.out]
 go_wp2_with fail
 refine HV.out.mono ?_
 rintro x w1 ⟨rfl,hb1⟩
 have HB1:=Lib.hid (HB0.out.trans (hb1.mono HB0.out.size))
 clear hb1 g0 g1 g2 g3 g4 g5 g6 g7 g8 g9 g10
 go_wp2_with fail
 go_ret
 exact⟨De (by simp[DH]),HB1.out⟩
theorem M195 (h:p:=by
 obtain⟨f,a,es⟩:=b
 cases es with
 | nil=>exact absurd hp (by simp)
 | cons e r=>rfl):p:=h
theorem kind1_at (b:BT)(hp:0<b.es.length):Oo b=b.es[0].k:=by
 exact M195
def ZS : Value:= .agg #[.map none,.map none,.map none,.int .u64 0,.int .i64 0]
def TryOut (Y:Nat->Prop)(w:World)(hb:Nat)(A:Option Addr)(h:HM)(b:BT)(r:Ending)(w':World):Prop:=Below w.heap.size w w'/\
 (((Du h b).1≠0/\r= .returned (.tuple #[ZS,.int .i64 (Du h b).1]))\/
 ((Du h b).1=0/\∃bt bm bk n,r= .returned (.tuple #[.agg (stC bt bm bk (Du h b).2.s.next (Du h b).2.s.closed),.int .i64 0])/\Maps3 w' (Ds (YH Y hb A) w') bt bm bk n (Du h b).2.s/\n<=tot h.bs+b.es.length/\
   w.heap.size<=bt/\w.heap.size<=bm/\w.heap.size<=bk))
def YT (Y:Nat->Prop)(hb:Nat)(A:Option Addr)(g:Nat):Nat->Prop:=fun c=>YH Y hb A c\/c=g
def RB (w:World)(g:Nat):Prop:=w.heap[g]?=some (.cells #[.map none,.map none,.map none,.int .u64 0,.int .i64 0] 123 (0,0))
theorem RB.cells {g:Nat}(h:RB w g):w.cell? ⟨g,0,none⟩=some (.map none)/\w.cell? ⟨g,1,none⟩=some (.map none)/\w.cell? ⟨g,2,none⟩=some (.map none)/\w.cell? ⟨g,3,none⟩=some (.int .u64 0)/\w.cell? ⟨g,4,none⟩=some (.int .i64 0)/\
  w.frozen? ⟨g,0,none⟩=false/\w.frozen? ⟨g,1,none⟩=false/\w.frozen? ⟨g,2,none⟩=false/\w.frozen? ⟨g,3,none⟩=false/\w.frozen? ⟨g,4,none⟩=false:=by
 unfold RB at h;simp[World.cell?,World.frozen?,h]
theorem below5 {B g:Nat}(h:Below B w w')(hg:B<=g)(a b c d e:Value):Below B w (((((w'.setCell ⟨g,0,none⟩ a).setCell ⟨g,1,none⟩ b).setCell ⟨g,2,none⟩ c).setCell ⟨g,3,none⟩ d).setCell ⟨g,4,none⟩ e):=
 ((((h.setCell (p:=⟨g,0,none⟩) hg _).setCell (p:=⟨g,1,none⟩) hg _).setCell (p:=⟨g,2,none⟩) hg _).setCell (p:=⟨g,3,none⟩) hg _).setCell (p:=⟨g,4,none⟩) hg _
theorem M35 (h:p:=by
 go_wp2_with fail
 refine HO.out.mono ?_
 rintro x wx ⟨rfl,rfl⟩
 go_wp2_with fail
 refine(HAP.out _).mono ?_
 rintro x w9 ⟨hc9,hout⟩
 rw[HAL.out] at hout
 have hrn:runM b.at' b.es true h.s=(Dc at' (b.es.drop (j+1)).isEmpty e s2).bind (runM b.at' (b.es.drop (j+1)) false):=by rw[HRUN.out,HDR.out,Nc (by rw[<-HOB.out,HJZ.out]),HAT.out]
 have HC9:=Lib.hid (HC8.out.trans hc9)
 have HB9:=Lib.hid (HBR0.out w9 HC9.out)
 cases ha:Dc at' (b.es.drop (j+1)).isEmpty e s2 with
 | none=>
  rw[ha] at hout hrn
  obtain rfl:=hout
  have HA2:Hid ((Du h b).1=12):=Lib.hid (by rw[HAD.out,hrn];rfl)
  clear hrn ha hc9
  obtain⟨q0,q1,q2,q3,q4,qf0,qf1,qf2,qf3,qf4⟩:=(HRB.out w9 HB9.out).cells
  go_wp2_with fail
  refine bodyPost_ret (v:= .tuple #[ZS,.int .i64 12]) (by simp[results,Tryz.results66,go_sem,ZS,q0,q1,q2,q3,q4]) rfl ?_
  exact HBAD.out 12 HA2.out (by decide) w9 HB9.out _ _ _ _ _
 | some s3=>
  rw[ha] at hout hrn
  obtain⟨rfl,hs3⟩:=hout
  have HREL:Hid (SAt (YT Y hb A (w.heap.size+1)) w9 g ct cm ck (n2+1) s3/\OQ s3/\s3.next<=nx+(j+1)/\n2+1<=n+(j+1)/\runM b.at' b.es true h.s=runM b.at' (b.es.drop (j+1)) (decide (j+1=0)) s3/\Chg (XS g ct cm ck) W7 w9):=Lib.hid ⟨hs3,OI HFI.out ha,by have:=OO ha;have:=HNX2.out;omega,by have:=HN2.out;omega,by rw[hrn,decide_eq_false (by omega:¬j+1=0)];rfl,HC9.out⟩
  clear hrn ha hc9 hs3
  go_wp2_with fail
  go_roundw
  case rel=>
   obtain⟨z1,z2,z3,z4,z5,z6⟩:=HREL.out
   exact⟨j+1,n2+1,s3,by omega,by go_num,z1,z2,z3,z4,z5,z6⟩
  case measure=>simp[intOf];omega):p:=h
theorem M69 (h:p:=by
 have HA2:Hid ((Du h b).1=12):=Lib.hid (by rw[HAD.out,HRUN.out,HDR.out,runM_not (by rw[<-HOB.out,HJZ.out];decide)])
 have HB8W:=Lib.hid (HBR0.out W8 HC8.out)
 go_wp2_with fail
 refine HO.out.mono ?_
 rintro x wx ⟨rfl,rfl⟩
 obtain⟨q0,q1,q2,q3,q4,qf0,qf1,qf2,qf3,qf4⟩:=(HRB.out W8 HB8W.out).cells
 go_wp2_with fail
 refine bodyPost_ret (v:= .tuple #[ZS,.int .i64 12]) (by simp[results,Tryz.results66,go_sem,ZS,q0,q1,q2,q3,q4]) rfl ?_
 exact HBAD.out 12 HA2.out (by decide) W8 HB8W.out _ _ _ _ _):p:=h
theorem M120 (h:p:=by
 clear h1
 go_wp2_with fail
 refine bodyPost_ret (v:= .tuple #[ZS,.int .i64 2]) (by simp[results,Tryz.results66,go_sem,ZS,r0,r1,r2,r3,r4]) rfl ?_
 exact HBAD.out 2 HA2.out (by decide) W0 (Below.refl _ _) _ _ _ _ _):p:=h
theorem M128 (h:p:=by
 rw[hbb]
 rw[show (k0==1)=decide (k0=1) from by rw[Bool.eq_iff_iff];simp,show ((L:Int)==0)=decide (L=0) from by rw[Bool.eq_iff_iff];simp]
 by_cases e1:k0=1<;>by_cases e2:L=0<;>simp[e1,e2]):p:=h
theorem M136 (h:p:=by
 go_wp2_with fail
 refine bodyPost_ret (v:= .tuple #[ZS,.int .i64 12]) (by simp[results,Tryz.results66,go_sem,ZS,q0,q1,q2,q3,q4]) rfl ?_
 exact HBAD.out 12 HA2.out (by decide) w5 HB5.out _ _ _ _ _):p:=h
theorem M166 (h:p:=by
 rw[decide_eq_false e,beq_eq_false_iff_ne];intro q;exact e (ByteArray.ext (Array.ext' (by rw[Vt.toList_data,Vt.toList_data] at q;exact q)))):p:=h
theorem Q515.Y514 (h:p:=by
 refine tk 17 rfl ?_
 refine tk 18 rfl ?_
 refine tk 19 rfl ?_
 refine tk 20 rfl ?_
 refine wpAnyH_done (by kernel_rfl) ?_ _
 refine NoPanic.normal ?_
 clear hHeld2
 have HB5:Hid (Below W0.heap.size W0 w5):=Lib.hid (HB2.out.trans (HQ5.out.mono HB2.out.size))
 obtain⟨q0,q1,q2,q3,q4,qf0,qf1,qf2,qf3,qf4⟩:=(HRB.out w5 HB5.out).cells
 exact M136):p:=h
theorem M514 (h:p:=by
 refine tk 4 rfl ?_
 refine tk 5 rfl ?_
 refine tk 6 rfl ?_
 refine tk 7 rfl ?_
 refine tk 8 rfl ?_
 refine tk 9 rfl ?_
 refine tk 10 rfl ?_
 refine tk 11 rfl ?_
 refine tk 12 rfl ?_
 refine tk 13 rfl ?_
 refine tk 14 rfl ?_
 refine tk 15 rfl ?_
 refine tk 16 rfl ?_
 exact Y514):p:=h
theorem try_any (H : HAt Y w hb bt bm bk n A cap h) (hY : ∀ b, Y b -> b < w.heap.size) (b : BT) (A2 : Option Addr) (c2 : Nat) (hev : EvsIn w A2 c2 b.es) (hbat : b.at' < 18446744073709551616) (hS : ∀ i (h : i < b.es.length), b.es[i].v.Slim 900) (hl40 : b.es.length <= 1099511627776)
  (htot:tot h.bs+b.es.length<=8796093022208) (hfl:b.flow.size<=maxLen) :
  Calls Tryz.prog 66 #[.pointer (some ⟨hb,0,none⟩),.agg #[.string b.flow,.int .u64 (b.at':Nat),.slice A2 b.es.length c2]] w (TryOut Y w hb A h b):=by
 obtain⟨m,hm⟩:∃m,m=b.es.length:=⟨_,rfl⟩
 have hl:=hev.le
 have hcm:=hev.cap_le
 simp only[maxLen] at hcm
 rw[<-hm] at hl hl40 htot
 rw[<-hm]
 obtain⟨W0,hW0⟩:∃W0,W0=(w.alloc (.cells #[.string b.flow,.int .u64 (b.at':Nat),.slice A2 m c2] 64)).alloc (.cells #[.map none,.map none,.map none,.int .u64 0,.int .i64 0] 123):=⟨_,rfl⟩
 have hx0:BB W0 w.heap.size b.flow b.at' A2 m c2:=by rw[hW0];exact(heap_alloc_old _ _ (by simp)).trans (heap_alloc_new w _)
 have hx1:RB W0 (w.heap.size+1):=by
  rw[hW0]
  have e:=heap_alloc_new (w.alloc (.cells #[.string b.flow,.int .u64 (b.at':Nat),.slice A2 m c2] 64)) (.cells #[.map none,.map none,.map none,.int .u64 0,.int .i64 0] 123)
  exact M114
 have hb0:Below w.heap.size w W0:=by rw[hW0];exact((Below.refl _ _).alloc (Nat.le_refl _) _).alloc (by simp) _
 have hz0:W0.heap.size=w.heap.size+2:=by rw[hW0];simp
 have HH:Hid (∀W,Below W0.heap.size W0 W->HAt Y W hb bt bm bk n A cap h):=Lib.hid fun W hW=>H.later (hb0.trans (hW.mono hb0.size))
 have HEV:Hid (∀W,Below W0.heap.size W0 W->EvsIn W A2 c2 b.es):=Lib.hid fun W hW=>hev.later (hb0.trans (hW.mono hb0.size))
 have HBB:Hid (∀W,Below W0.heap.size W0 W->BB W w.heap.size b.flow b.at' A2 m c2):=Lib.hid fun W hW=>hx0.later hW (by omega)
 have HRB:Hid (∀W,Below W0.heap.size W0 W->RB W (w.heap.size+1)):=Lib.hid fun W hW=>(hW.block _ (by omega)).trans hx1
 have HBW:Hid (∀W,Below W0.heap.size W0 W->Below w.heap.size w W):=Lib.hid fun W hW=>hb0.trans (hW.mono hb0.size)
 have HM:=Lib.hid hm;have HZ:=Lib.hid hz0;have HS:=Lib.hid hS;have HY:=Lib.hid hY;have HT:=Lib.hid htot;have HFL:=Lib.hid hfl;have HBAT:=Lib.hid hbat
 have H0:=Lib.hid H
 obtain⟨a0,a1,a2,-⟩:=hx0.cells
 obtain⟨r0,r1,r2,r3,r4,rf0,rf1,rf2,rf3,rf4⟩:=hx1.cells
 clear H hev hx0 hx1 hb0 hz0 hS hY htot hfl hm hbat
 replace hW0:=Lib.hid hW0
 have HCT:=Lib.hid (OK 99 Jk DH b.es (Jm b.es) A2 c2 W0 (HEV.out W0 (Below.refl _ _)))
 rw[<-HM.out] at HCT
 generalize hff:b.flow=ff at *
 generalize hat:b.at'=at' at *
 have HFF:=Lib.hid hff;have HAT:=Lib.hid hat
 clear hff hat
 go_enter Tryz.func66,Tryz.ntmps66
 go_upto_region 1 with fail
 rw[<-hW0.out]
 have HBAD:Hid (∀c:Int,(Du h b).1=c->c≠0->∀W,Below W0.heap.size W0 W->∀x0 x1 x2 x3 x4,TryOut Y w hb A h b (.returned (.tuple #[ZS,.int .i64 c])) (((((W.setCell ⟨w.heap.size+1,0,none⟩ x0).setCell ⟨w.heap.size+1,1,none⟩ x1).setCell ⟨w.heap.size+1,2,none⟩ x2).setCell ⟨w.heap.size+1,3,none⟩ x3).setCell ⟨w.heap.size+1,4,none⟩ x4)):=
  Lib.hid fun c hc hne W hW x0 x1 x2 x3 x4=>⟨below5 (HBW.out W hW) (Nat.le_succ _) _ _ _ _ _,.inl ⟨by rw[hc];exact hne,by rw[hc]⟩⟩
 have HOK:Hid (bOk b=false->(Du h b).1=2):=Lib.hid fun hk=>by unfold Du;rw[if_pos hk]
 have HBO:Hid (bOk b=(decide (at'<=9223372036854775807)&&decide (0<m)&& !b.es.any DH)):=Lib.hid (by unfold bOk;rw[HAT.out,HM.out];rfl)
 by_cases h1:at'<=9223372036854775807
 rotate_left
 ·have k1 : decide ((at' : Int) <= 9223372036854775807) = false := decide_eq_false (by omega)
  have k1':decide (9223372036854775807<(at':Int))=true:=decide_eq_true (by omega)
  have HA2:=Lib.hid (HOK.out (by rw[HBO.out,decide_eq_false h1];simp))
  exact M120
 have k1:decide ((at':Int)<=9223372036854775807)=true:=decide_eq_true (by omega)
 have k1':decide (9223372036854775807<(at':Int))=false:=decide_eq_false (by omega)
 by_cases h2:m=0
 ·have hm0 : ((m : Int) == 0) = true := by simp; omega
  have HA2:=Lib.hid (HOK.out (by rw[HBO.out,decide_eq_false (by omega:¬0<m)];simp))
  exact M120
 have HQ1:=Lib.hid h1
 clear h1
 have hm0:((m:Int)==0)=false:=by simp;omega
 go_upto_region 3 with fail
 go_wp2_with fail
 refine HCT.out.mono ?_
 rintro x w1 ⟨rfl,hb1⟩
 have HB1:=Lib.hid hb1
 clear hb1
 generalize hwr:b.es.any DH=wr at *
 cases wr with
 | true=>
  obtain⟨q0,q1,q2,q3,q4,qf0,qf1,qf2,qf3,qf4⟩:=(HRB.out w1 HB1.out).cells
  have HA2:=Lib.hid (HOK.out (by rw[HBO.out];simp))
  clear r0 r1 r2 r3 r4 rf0 rf1 rf2 rf3 rf4 a0 a1 a2
  go_wp2_with fail
  refine bodyPost_ret (v:= .tuple #[ZS,.int .i64 2]) (by simp[results,Tryz.results66,go_sem,ZS,q0,q1,q2,q3,q4]) rfl ?_
  exact HBAD.out 2 HA2.out (by decide) w1 HB1.out _ _ _ _ _
 | false=>
  have HOKT:Hid (bOk b=true):=Lib.hid (by rw[HBO.out,decide_eq_true HQ1.out,decide_eq_true (by omega:0<m)];rfl)
  have HWR:=Lib.hid hwr
  obtain⟨a0,a1,a2,-⟩:=(HBB.out w1 HB1.out).cells
  obtain⟨s0,s1,s2,s3,s4,s5,s6,sf⟩:=FT (HH.out w1 HB1.out).blk
  generalize hhf:h.flow=hf at *
  have HHF:=Lib.hid hhf
  clear hhf
  obtain⟨w2,hw2⟩:∃w2,w2=w1.drew:=⟨_,rfl⟩
  have HB2:Hid (Below W0.heap.size W0 w2):=Lib.hid (by rw[hw2];exact Da HB1.out)
  go_upto_region 5 with fail
  go_region
  rw[<-hw2]
  replace hw2:=Lib.hid hw2
  clear a0 a1 a2 s0 s1 s2 s3 s4 s5 s6 sf r0 r1 r2 r3 r4 rf0 rf1 rf2 rf3 rf4
  obtain⟨q0,q1,q2,q3,q4,qf0,qf1,qf2,qf3,qf4⟩:=(HRB.out w2 HB2.out).cells
  obtain⟨a0,a1,a2,-⟩:=(HBB.out w2 HB2.out).cells
  obtain⟨s0,s1,s2,s3,s4,s5,s6,sf⟩:=FT (HH.out w2 HB2.out).blk
  have HADD1:Hid (b.flow≠h.flow->(Du h b).1=6):=Lib.hid fun q=>by unfold Du;rw[if_neg (by rw[HOKT.out];simp),if_pos q]
  rw[HFF.out,HHF.out] at HADD1
  obtain⟨bb,hbb⟩:∃bb,bb=(ff.toList==hf.toList):=⟨_,rfl⟩
  rw[<-hbb]
  have hbe:bb=decide (ff=hf):=by
   rw[hbb]
   by_cases e:ff=hf
   ·rw[e];simp
   ·exact M166
  clear hbb
  by_cases h3:ff=hf
  rotate_left
  ·obtain rfl : bb = false := by rw [hbe]; exact decide_eq_false h3
   have HA2:=Lib.hid (HADD1.out h3)
   clear hbe h3
   go_wp2_with fail
   refine bodyPost_ret (v:= .tuple #[ZS,.int .i64 6]) (by simp[results,Tryz.results66,go_sem,ZS,q0,q1,q2,q3,q4]) rfl ?_
   exact HBAD.out 6 HA2.out (by decide) w2 HB2.out _ _ _ _ _
  obtain rfl:bb=true:=by rw[hbe];exact decide_eq_true h3
  clear hbe
  have HFE:=Lib.hid h3
  clear h3
  generalize hcl:h.s.closed=cl at *
  have HCL:=Lib.hid hcl
  clear hcl
  have HADD2:Hid (h.s.closed≠0->(Du h b).1=8):=Lib.hid fun q=>by unfold Du;rw[if_neg (by rw[HOKT.out];simp),if_neg (by rw[HFF.out,HHF.out,HFE.out];simp),if_pos q]
  rw[HCL.out] at HADD2
  by_cases h4:cl=0
  rotate_left
  ·have kc : (cl != 0) = true := by simpa using h4
   have kc2:(cl==0)=false:=by simpa using h4
   have HA2:=Lib.hid (HADD2.out h4)
   clear h4
   go_wp2_with fail
   refine bodyPost_ret (v:= .tuple #[ZS,.int .i64 8]) (by simp[results,Tryz.results66,go_sem,ZS,q0,q1,q2,q3,q4]) rfl ?_
   exact HBAD.out 8 HA2.out (by decide) w2 HB2.out _ _ _ _ _
  subst h4
  go_upto_region 9 with fail
  have hp0:0<b.es.length:=by have:=HM.out;omega
  obtain⟨eb,eo,lo0,hi0,vk0,vn0,vf0,vs0,A0,m0,c0,hA,heb,-,-,-,z0,-⟩:=(HEV.out w2 HB2.out).get 0 hp0
  subst hA
  rw[show eo+0*11=eo by omega] at z0
  have hk1:Oo b=b.es[0].k:=kind1_at b hp0
  generalize hkk:b.es[0].k=k0 at *
  have HK1:=Lib.hid hk1
  clear hk1 hkk
  have HCA:=Lib.hid (hat_any (HH.out w2.drew (Da HB2.out)))
  have HBS:Hid (h.bs= []↔h.bs.length=0):=Lib.hid (by constructor;intro e;rw[e];rfl;intro e;exact List.eq_nil_of_length_eq_zero e)
  have HADD3:Hid ((at'<h.at'\/¬(k0=1↔h.bs.length=0))->(Du h b).1=12):=Lib.hid fun q=>by unfold Du;rw[if_neg (by rw[HOKT.out];simp),if_neg (by rw[HFF.out,HHF.out,HFE.out];simp),if_neg (by rw[HCL.out];simp),if_pos (by rw[HAT.out,HK1.out,HBS.out];exact q)]
  have HADD4:Hid (¬(at'<h.at'\/¬(k0=1↔h.bs.length=0))->Du h b=match runM b.at' b.es true h.s with | none=>(12,h)|some s'=>(0,⟨h.flow,h.bs++ [b],s'⟩)):=Lib.hid fun q=>by unfold Du;rw[if_neg (by rw[HOKT.out];simp),if_neg (by rw[HFF.out,HHF.out,HFE.out];simp),if_neg (by rw[HCL.out];simp),if_neg (by rw[HAT.out,HK1.out,HBS.out];exact q)];cases runM b.at' b.es true h.s<;>rfl
  have KS:Hid (∀W,Below w2.heap.size w2 W->(fun W:World=>W.cell? ⟨w.heap.size,1,none⟩=some (.int .u64 (at':Nat))/\W.cell? ⟨w.heap.size,2,none⟩=some (.slice (some ⟨eb,eo,none⟩) m c2)/\W.cell? ⟨hb,6,none⟩=some (.slice A h.bs.length cap)/\W.cell? ⟨eb,eo,none⟩=some (.int .i64 k0)) W):=Lib.hid fun W hW=>by
   have hWW:=HB2.out.trans (hW.mono HB2.out.size)
   obtain⟨-,d1,d2,-⟩:=(HBB.out W hWW).cells
   obtain⟨-,-,-,-,-,-,d6,-⟩:=FT (HH.out W hWW).blk
   exact⟨d1,d2,d6,(hW.cell (p:=⟨eb,eo,none⟩) heb).trans z0⟩
  generalize hha:h.at'=ha at *
  generalize hll:h.bs.length=L at *
  have HHA:=Lib.hid hha;have HLL:=Lib.hid hll
  clear hha hll a0 a1 a2 s0 s1 s2 s3 s4 s5 s6 sf q0 q1 q2 q3 q4 qf0 qf1 qf2 qf3 qf4 z0
  by_cases h5:at'<ha
  ·have k5 : decide ((at' : Int) < (ha : Int)) = true := decide_eq_true (by omega)
   have k5n:decide (at'<ha)=true:=decide_eq_true h5
   have HA2:=Lib.hid (HADD3.out (.inl h5))
   clear h5
   refine wp_region_noPanic ?_
   refine wp_region_held_drew (S:=(fun W:World=>W.cell? ⟨w.heap.size,1,none⟩=some (.int .u64 (at':Nat))/\W.cell? ⟨w.heap.size,2,none⟩=some (.slice (some ⟨eb,eo,none⟩) m c2)/\W.cell? ⟨hb,6,none⟩=some (.slice A L cap)/\W.cell? ⟨eb,eo,none⟩=some (.int .i64 k0))) (by kernel_rfl) ?_ (fun hHeld=> ?_)
   ·exact M60
   refine tk 0 rfl ?_
   refine tk 1 rfl ?_
   refine tk 2 rfl ?_
   refine rd1 3 rfl fun K hK=> ?_
   go_simp
   (with_reducible refine HCA.out.mono ?_)
   rintro e5 w5 ⟨rfl,hb9⟩
   have hq5:Below w2.heap.size w2 w5:=(Da (Below.refl _ _)).trans hb9
   have HQ5:=Lib.hid hq5
   clear hb9 hq5
   go_wp2_with fail
   refine hK.out _ _ (KS.out _ HQ5.out) (fun hHeld2=> ?_)
   clear hK K hHeld
   try simp only[ap]
   open Q515 in exact M514
  have k5:decide ((at':Int)<(ha:Int))=false:=decide_eq_false (by omega)
  have k5n:decide (at'<ha)=false:=decide_eq_false h5
  have HN5:=Lib.hid h5
  clear h5
  have hm1:0<m:=by omega
  have hm2:(0:Int)<(m:Int):=by omega
  refine wp_region_noPanic ?_
  refine wp_region_held_drew (S:=(fun W:World=>W.cell? ⟨w.heap.size,1,none⟩=some (.int .u64 (at':Nat))/\W.cell? ⟨w.heap.size,2,none⟩=some (.slice (some ⟨eb,eo,none⟩) m c2)/\W.cell? ⟨hb,6,none⟩=some (.slice A L cap)/\W.cell? ⟨eb,eo,none⟩=some (.int .i64 k0))) (by kernel_rfl) ?_ (fun hHeld=> ?_)
  ·exact M60
  refine tk 0 rfl ?_
  refine tk 1 rfl ?_
  refine tk 2 rfl ?_
  refine rd1 3 rfl fun K hK=> ?_
  go_simp
  (with_reducible refine HCA.out.mono ?_)
  rintro e5 w5 ⟨rfl,hb9⟩
  have hq5:Below w2.heap.size w2 w5:=(Da (Below.refl _ _)).trans hb9
  have HQ5:=Lib.hid hq5
  clear hb9 hq5
  go_wp2_with fail
  refine hK.out _ _ (KS.out _ HQ5.out) (fun hHeld2=> ?_)
  clear hK K hHeld
  try simp only[ap]
  refine tk 4 rfl ?_
  refine tk 5 rfl ?_
  refine tk 6 rfl ?_
  refine tk 7 rfl ?_
  refine tk 8 rfl ?_
  refine tk 9 rfl ?_
  refine tk 10 rfl ?_
  refine tk 11 rfl ?_
  refine tk 12 rfl ?_
  refine tk 13 rfl ?_
  refine tk 14 rfl ?_
  refine tk 15 rfl ?_
  refine tk 16 rfl ?_
  refine tk 17 rfl ?_
  refine tk 18 rfl ?_
  refine tk 19 rfl ?_
  refine tk 20 rfl ?_
  refine wpAnyH_done (by kernel_rfl) ?_ _
  refine NoPanic.normal ?_
  clear hHeld2
  have HB5:Hid (Below W0.heap.size W0 w5):=Lib.hid (HB2.out.trans (HQ5.out.mono HB2.out.size))
  obtain⟨q0,q1,q2,q3,q4,qf0,qf1,qf2,qf3,qf4⟩:=(HRB.out w5 HB5.out).cells
  obtain⟨bb,hbb⟩:∃bb,bb=((k0==1)==((L:Int)==0)):=⟨_,rfl⟩
  rw[<-hbb]
  have hbe:bb=decide (k0=1↔L=0):=by
   exact M128
  clear hbb
  by_cases h6:(k0=1↔L=0)
  rotate_left
  ·obtain rfl : bb = false := by rw [hbe]; exact decide_eq_false h6
   have HA2:=Lib.hid (HADD3.out (.inr h6))
   clear hbe h6
   exact M136
  obtain rfl:bb=true:=by rw[hbe];exact decide_eq_true h6
  have HAD:=Lib.hid (HADD4.out (fun q=>q.elim HN5.out (fun q=>q h6)))
  clear hbe h6 k5 k5n
  have hH5:=HH.out w5 HB5.out
  obtain⟨s0,s1,s2,s3,s4,s5,s6,sf⟩:=FT hH5.blk
  have HCLN:=Lib.hid (Yr bt bm bk n h.s h.s.next h.s.closed w5 (Ds (YH Y hb A) w) (H0.out.maps.later (HBW.out w5 HB5.out |>.mono (Nat.le_refl _)) (Leads.refl _)))
  have HH5:=Lib.hid hH5
  clear hH5
  generalize hnx:h.s.next=nx at *
  generalize hcx:h.s.closed=cx at *
  have HNX:=Lib.hid hnx;have HCX:=Lib.hid hcx
  clear hnx hcx
  go_upto_region 11 with fail
  go_wp2_with fail
  refine HCLN.out.mono ?_
  rintro x w6 ⟨ct,cm,ck,rfl,hm6,hb6,⟨k1,k2,k3⟩,n1,n2,n3⟩
  obtain⟨W7,hW7⟩:∃W7,W7=w6.alloc (.cells (stC ct cm ck nx cx) 123):=⟨_,rfl⟩
  have hb7:Below w5.heap.size w5 W7:=by rw[hW7];exact hb6.alloc hb6.size _
  have hz7:W7.heap.size=w6.heap.size+1:=by rw[hW7];simp
  have hblk7:W7.heap[w6.heap.size]?=some (.cells (stC ct cm ck nx cx) 123 (0,0)):=by rw[hW7];exact heap_alloc_new _ _
  have hold:∀c,c<w6.heap.size->W7.heap[c]?=w6.heap[c]?:=fun c hc=>by rw[hW7];exact RowKit.Below.heap_alloc _ _ _ hc
  have hb07:Below w.heap.size w W7:=(HBW.out w5 HB5.out).trans (hb7.mono (HBW.out w5 HB5.out).size)
  have hl7:Leads (Ds (YH Y hb A) w) (Ds (XY (YT Y hb A (w.heap.size+1)) w6.heap.size ct cm ck) W7):=Dp hb07.size fun c hc hx=>⟨fun q=>by
   have:=hb6.size;have:=(HBW.out w5 HB5.out).size
   rcases q with (q|rfl)|rfl|rfl|rfl|rfl
   ·exact hx q
   all_goals omega,hb07.block c hc⟩
  have hS7:SAt (YT Y hb A (w.heap.size+1)) W7 w6.heap.size ct cm ck n h.s:=⟨by rw[HNX.out,HCX.out];exact hblk7,⟨hm6.tasks.keep (hold ct hm6.tasks.lt) hl7,hm6.timers.keep (hold cm hm6.timers.lt),hm6.keys.keep (hold ck hm6.keys.lt)⟩,by have:=hm6.tasks.lt;omega,by have:=hm6.timers.lt;omega,by have:=hm6.keys.lt;omega,n1,n2,n3⟩
  have hyh:∀c,YT Y hb A (w.heap.size+1) c->c<W0.heap.size:=fun c hc=>by
   have:=HZ.out
   rcases hc with (hc|rfl|hc)|rfl
   ·have:=HY.out c hc;omega
   ·have:=H0.out.lt;omega
   ·have:=H0.out.row.row_lt c hc;omega
   ·omega
  have HYH:=Lib.hid hyh;have HS7:=Lib.hid hS7;have HB7:=Lib.hid (HB5.out.trans (hb7.mono HB5.out.size));have HZ7:=Lib.hid hz7;have HB67:=Lib.hid hb6
  have HCT2:Hid (w5.heap.size<=ct/\w5.heap.size<=cm/\w5.heap.size<=ck):=Lib.hid ⟨k1,k2,k3⟩
  have HZ56:Hid (w5.heap.size<=w6.heap.size/\W0.heap.size<=w5.heap.size):=Lib.hid ⟨hb6.size,HB5.out.size⟩
  unfold stC at hW7
  replace hW7:=Lib.hid hW7
  clear hm6 hb6 k1 k2 k3 n1 n2 n3 hb7 hb07 hz7 hblk7 hold hl7 hS7 hyh q0 q1 q2 q3 q4 qf0 qf1 qf2 qf3 qf4 s0 s1 s2 s3 s4 s5 s6 sf
  obtain⟨-,d1,d2,-⟩:=(HBB.out W7 HB7.out).cells
  go_upto_region 12 with fail
  rw[<-hW7.out]
  generalize hg:w6.heap.size=g at *
  have HG:=Lib.hid hg
  clear hg
  go_wp2_with fail
  have HBR0:Hid (∀W,Chg (XS g ct cm ck) W7 W->Below W0.heap.size W0 W):=Lib.hid fun W hW=>HB7.out.trans (hW.below HB7.out.size fun c hc=>by
   obtain⟨k1,k2,k3⟩:=HCT2.out
   obtain⟨k4,k5⟩:=HZ56.out
   rcases hc with rfl|rfl|rfl|rfl<;>omega)
  go_loopw [76] (fun i wr=>∃(j n2:Nat) (s2:ST),j<=m/\i= .int .i64 j/\SAt (YT Y hb A (w.heap.size+1)) wr g ct cm ck n2 s2/\OQ s2/\s2.next<=nx+j/\n2<=n+j/\runM b.at' b.es true h.s=runM b.at' (b.es.drop j) (decide (j=0)) s2/\Chg (XS g ct cm ck) W7 wr) (fun i _=>m-(intOf i).toNat)
  case atStart=>exact⟨0,n,h.s,by omega,rfl,HS7.out,H0.out.fine.fine,by rw[HNX.out];exact Nat.le_refl _,Nat.le_refl _,rfl,Chg.refl _ _⟩
  case round=>
   obtain⟨j,n2,s2,hj,rfl,hs,hfi,hnx2,hn2,hrun,hch⟩:=hrel
   have HSJ:=Lib.hid hs;have HFI:=Lib.hid hfi;have HNX2:=Lib.hid hnx2;have HN2:=Lib.hid hn2;have HRUN:=Lib.hid hrun;have HCH:=Lib.hid hch
   have HBR:=Lib.hid (HBR0.out wr hch)
   clear hs hfi hnx2 hn2 hrun hch d1 d2
   obtain⟨-,d1,d2,-⟩:=(HBB.out wr HBR.out).cells
   by_cases hlt:j<m
   ·have hje : j < b.es.length := by have := HM.out; omega
    obtain⟨eb2,eo2,lo,hi,vk,vn,vf,vs,A',m',c',hA2,hbl,hf,hv,hhi,e0,e1,e2,e3,e4,e5,e6,e7,e8,e9,e10⟩:=(HEV.out W0 (Below.refl _ _)).get j hje
    injection hA2 with hA2
    injection hA2 with hA2 hA3 _
    subst hA2;subst hA3
    have hcw:∀o,wr.cell? ⟨eb,o,none⟩=W0.cell? ⟨eb,o,none⟩:=fun o=>HBR.out.cell (p:=⟨eb,o,none⟩) hbl
    have y0:=(hcw _).trans e0;have y1:=(hcw _).trans e1;have y2:=(hcw _).trans e2;have y3:=(hcw _).trans e3;have y4:=(hcw _).trans e4;have y5:=(hcw _).trans e5;have y6:=(hcw _).trans e6;have y7:=(hcw _).trans e7;have y8:=(hcw _).trans e8;have y9:=(hcw _).trans e9;have y10:=(hcw _).trans e10
    clear e0 e1 e2 e3 e4 e5 e6 e7 e8 e9 e10 hcw
    obtain⟨e,he⟩:∃e,e=b.es[j]:=⟨_,rfl⟩
    have hval:e.valid=true:=by
     have:=List.any_eq_false.1 HWR.out b.es[j] (List.getElem_mem hje)
     rw[he];simpa[DH] using this
    rw[<-he] at hf hv y0 y1 y2 y3 y4 y5
    have hEO:=Li hf hval (by rw[he];exact HS.out j hje)
    have hdr:b.es.drop j=e::b.es.drop (j+1):=by rw[he];exact List.drop_eq_getElem_cons hje
    obtain⟨W8,hW8⟩:∃W8,W8=wr.alloc (.cells (Db e vk vn vf vs A' m' c') 61):=⟨_,rfl⟩
    have hb8:Below wr.heap.size wr W8:=by rw[hW8];exact(Below.refl _ _).alloc (Nat.le_refl _) _
    have hx8:EBox W8 wr.heap.size (Db e vk vn vf vs A' m' c'):=by rw[hW8];exact Gs ..
    obtain⟨g0,g1,g2,g3,g4,g5,g6,g7,g8,g9,g10⟩:=EBox.cells hx8
    have hv8:Rep W8 lo hi e.v (Dn vk vn vf vs A' m' c'):=hv.later ((HBR.out.trans (hb8.mono HBR.out.size)).mono hhi)
    have HAP:Hid (∀alone,Calls Tryz.prog 103 #[.pointer (some ⟨g,0,none⟩),.agg (Db e vk vn vf vs A' m' c'),.int .u64 (at':Nat),.bool alone] W8 (Sp (YT Y hb A (w.heap.size+1)) W8 g ct cm ck n2 (Dc at' alone e s2))):=Lib.hid fun alone=>
     NW g ct cm ck s2 (HSJ.out.later hb8) (by have:=HN2.out;have:=H0.out.nn;have:=HT.out;have:=HLL.out;omega) (by have:=HNX2.out;have:=H0.out.fine.next;have:=HT.out;have:=HNX.out;omega) HFI.out (fun c hc=>by have:=HYH.out c hc;have:=HZ.out;have:=HBR.out.size;have:=hb8.size;omega) e hEO vk vn vf vs A' m' c' lo hi hv8 (by have:=HBR.out.size;have:=hb8.size;omega) (by obtain⟨k1,k2,k3⟩:=HCT2.out;obtain⟨k4,k5⟩:=HZ56.out;exact⟨by omega,by omega,by omega,by omega⟩) at' HBAT.out alone
    have HEO:=Lib.hid hEO;have HDR:=Lib.hid hdr;have HB8:=Lib.hid hb8;have HC8:Hid (Chg (XS g ct cm ck) W7 W8):=Lib.hid (HCH.out.trans (Chg.of_below hb8))
    obtain⟨-,p1,p2,-⟩:=(HBB.out W8 (HBR.out.trans (hb8.mono HBR.out.size))).cells
    clear hf hv hv8 hhi hval hEO he hdr hb8 hx8
    have hO:=Cn.Pb e.k W8
    obtain⟨ob,hob⟩:∃ob,ob=decide (1<=e.k/\e.k<=6):=⟨_,rfl⟩
    rw[<-hob] at hO
    have HOB:Hid (ob=decide (e.k<=6)):=Lib.hid (by rw[hob];exact decide_eq_decide.2 ⟨fun q=>q.2,fun q=>⟨HEO.out.k0,q⟩⟩)
    have HO:=Lib.hid hO
    clear hob hO
    unfold Db at hW8 HAP
    replace hW8:=Lib.hid hW8
    go_upto_region 15 with fail
    rw[<-hW8.out]
    have HAL:Hid (((j:Int)==(m:Int)-1)=(b.es.drop (j+1)).isEmpty):=Lib.hid (by rw[XC hje, <-HM.out,Bool.eq_iff_iff];simp)
    by_cases hj0:j=0
    ·have hz : ((j : Int) == 0) = true := by simp; omega
     have HJZ:Hid (decide (j=0)=true):=Lib.hid (decide_eq_true hj0)
     clear hj0
     cases ob with
     | true=>
      exact M35
     | false=>
      exact M69
    ·have hz : ((j : Int) == 0) = false := by simp; omega
     have HJZ:Hid (decide (j=0)=false):=Lib.hid (decide_eq_false hj0)
     clear hj0
     cases ob with
     | false=>
      exact M35
     | true=>
      exact M69
   ·have hj' : j = m := by omega
    have hfin:runM b.at' b.es true h.s=some s2:=by rw[HRUN.out,List.drop_eq_nil_of_le (by have:=HM.out;omega)];rfl
    have hadd:Du h b=(0,⟨h.flow,h.bs++ [b],s2⟩):=by rw[HAD.out,hfin]
    have HADD:=Lib.hid hadd
    obtain⟨c0,c1,c2,c3,c4,-,-,-,-,-⟩:=DE HSJ.out.blk
    obtain⟨q0,q1,q2,q3,q4,qf0,qf1,qf2,qf3,qf4⟩:=(HRB.out wr HBR.out).cells
    have hnlt:decide ((j:Int)<(m:Int))=false:=decide_eq_false (by omega)
    subst hj'
    clear hfin hadd hlt hnlt
    go_wp2_with fail
    refine bodyPost_ret (v:= .tuple #[.agg (stC ct cm ck s2.next s2.closed),.int .i64 0]) (by simp[results,Tryz.results66,go_sem,stC,q0,q1,q2,q3,q4]) rfl ?_
    refine⟨below5 (HBW.out wr HBR.out) (Nat.le_succ _) _ _ _ _ _,.inr ⟨by rw[HADD.out],ct,cm,ck,n2,by rw[HADD.out],?_,by have:=HN2.out;have:=H0.out.nn;have:=HM.out;omega,?_,?_,?_⟩⟩
    ·rw [HADD.out]
     have hoth:∀c,c≠w.heap.size+1->∀x0 x1 x2 x3 x4,(((((wr.setCell ⟨w.heap.size+1,0,none⟩ x0).setCell ⟨w.heap.size+1,1,none⟩ x1).setCell ⟨w.heap.size+1,2,none⟩ x2).setCell ⟨w.heap.size+1,3,none⟩ x3).setCell ⟨w.heap.size+1,4,none⟩ x4).heap[c]?=wr.heap[c]?:=fun c hc x0 x1 x2 x3 x4=>by
      rw[RowKit.Below.heap_setCell _ _ _ _ hc,RowKit.Below.heap_setCell _ _ _ _ hc,RowKit.Below.heap_setCell _ _ _ _ hc,RowKit.Below.heap_setCell _ _ _ _ hc,RowKit.Below.heap_setCell _ _ _ _ hc]
     obtain⟨k1,k2,k3⟩:=HCT2.out
     obtain⟨k4,k5⟩:=HZ56.out
     have k6:=HZ.out
     exact⟨HSJ.out.maps.tasks.keep (hoth _ (by omega) _ _ _ _ _) (Dp (by simp[World.setCell]) fun c hc hx=>⟨fun q=>hx (.inl (.inl q)),hoth c (fun q=>hx (.inl (.inr q))) _ _ _ _ _⟩),HSJ.out.maps.timers.keep (hoth _ (by omega) _ _ _ _ _),HSJ.out.maps.keys.keep (hoth _ (by omega) _ _ _ _ _)⟩
    all_goals (obtain⟨k1,k2,k3⟩:=HCT2.out;obtain⟨k4,k5⟩:=HZ56.out;have k6:=HZ.out;omega)
theorem Tryz.infoBt : (Tryz.prog.info? 64).map (fun i=>(i.zero,i.size,i.bytes))=some (some (.agg #[.string ⟨#[]⟩,.int .u64 0,.slice none 0 0]),3,48):=by kernel_rfl
theorem Q522.Y520 (h:p:=by
 have HB0:=Lib.hid hb0
 clear H hev hx0 hb0 hz0 hS hY htot hl40
 replace hW0:=Lib.hid hW0
 generalize b.flow=ff at *
 generalize b.at'=at' at *
 generalize b.es.length=m at *
 go_enter Tryz.func65,Tryz.ntmps65
 go_upto_region 1 with fail
 rw[<-hW0.out]
 go_wp2_with fail
 refine HT.out.mono ?_
 rintro x w1 ⟨hb1,⟨hc,rfl⟩|⟨hc,ct,cm,ck,n2,rfl,-⟩⟩
 ·have HB1 := Lib.hid (HB0.out.trans (hb1.mono HB0.out.size))
  unfold ZS
  go_wp2_with fail
  go_ret
  exact⟨rfl,(HB1.out.alloc HB1.out.size _)⟩
 ·have HB1 := Lib.hid (HB0.out.trans (hb1.mono HB0.out.size))
  unfold stC
  go_wp2_with fail
  go_ret
  exact⟨by rw[hc];rfl,(HB1.out.alloc HB1.out.size _)⟩):p:=h
theorem M765 (h:p:=by
 have hb0:Below w.heap.size w W0:=by rw[hW0];exact(Below.refl _ _).alloc (Nat.le_refl _) _
 have hz0:W0.heap.size=w.heap.size+1:=by rw[hW0];simp
 exact Y765):p:=h
theorem Q768.Y765 (h:p:=by
 have HT:=Lib.hid (try_any (H.later hb0) (fun c hc=>by have:=hY c hc;omega) b A2 c2 ((EvsIn.leads hev (Df _ _)).later hb0) hbat hS hl40 htot hfl)
 obtain⟨a0,a1,a2,-⟩:=hx0.cells
 exact Y520):p:=h
theorem M520 (h:p:=by
 obtain⟨W0,hW0⟩:∃W0,W0=w.alloc (.cells #[.string b.flow,.int .u64 (b.at':Nat),.slice A2 b.es.length c2] 64):=⟨_,rfl⟩
 have hx0:BB W0 w.heap.size b.flow b.at' A2 b.es.length c2:=by rw[hW0];exact heap_alloc_new w _
 open Q768 in exact M765):p:=h
theorem YW (H : HAt Y w hb bt bm bk n A cap h) (hY : ∀ b, Y b -> b < w.heap.size) (b : BT) (A2 : Option Addr) (c2 : Nat) (hev : EvsIn (Ds (HZ hb A) w) A2 c2 b.es) (hbat : b.at' < 18446744073709551616) (hS : ∀ i (h : i < b.es.length), b.es[i].v.Slim 900) (hl40 : b.es.length <= 1099511627776)
  (htot:tot h.bs+b.es.length<=8796093022208) (hfl:b.flow.size<=maxLen) :
  Calls Tryz.prog 65 #[.pointer (some ⟨hb,0,none⟩),.agg #[.string b.flow,.int .u64 (b.at':Nat),.slice A2 b.es.length c2]] w fun r w'=>r= .returned (.int .i64 (Du h b).1)/\Below w.heap.size w w':=by
 open Q522 in exact M520
def AddOut (Y:Nat->Prop)(w:World)(hb:Nat)(A:Option Addr)(h:HM)(b:BT)(r:Ending)(w':World):Prop:=r= .returned (.int .i64 (Du h b).1)/\Chg (HZ hb A) w w'/\∃bt bm bk n A' cap',HAt Y w' hb bt bm bk n A' cap' (Du h b).2/\(∀r,rowOf A'=some r->rowOf A=some r\/w.heap.size<=r)
theorem M106 (h:p:=by
 try simp only[ap]
 refine wpAnyH_done (by kernel_rfl) ?_ _
 refine NoPanic.normal ?_
 clear hHeldZ
 go_wp2_with fail
 go_ret
 exact HOUT.out):p:=h
theorem M704 (h:p:=by
 have hch:=FT (hcx.trans HBL3.out)
 have cx6:=hch.2.2.2.2.2.2.1
 rw[<-HLL.out] at cx6
 have fx6:=hch.2.2.2.2.2.2.2 6
 have HBX6:=Lib.hid hbx6
 clear hown6 hgrow6 hat6 hcx hbx6 hch
 exact Y704):p:=h
theorem M635 (h:p:=by
 try simp only[ap]
 refine tk 9 rfl ?_
 refine tk 10 rfl ?_
 refine rd1 11 rfl fun K hK=> ?_
 go_simp
 refine hK.out _ _ (HKS.out _ ((RowKit.Below.heap_setCell _ _ _ _ (by have:=HHB.out;show w.heap.size≠hb;omega)).trans HBX6.out)) (fun hHeldZ=> ?_)
 exact Y635):p:=h
theorem Q636.Y635 (h:p:=by
 clear hK K hHeld4
 exact M106):p:=h
theorem Q705.Y704 (h:p:=by
 refine hK.out _ _ (HKS.out _ HBX6.out) (fun hHeld4=> ?_)
 clear hK K hHeld3
 open Q636 in exact M635):p:=h
theorem Q637.Y635 (h:p:=by
 clear hK K hHeld8
 exact M106):p:=h
theorem Q706.Y704 (h:p:=by
 refine hK.out _ _ (HKS.out _ HBX6.out) (fun hHeld8=> ?_)
 clear hK K hHeld7
 open Q637 in exact M635):p:=h
theorem Q638.Y635 (h:p:=by
 clear hK K hHeld11
 exact M106):p:=h
theorem Q707.Y704 (h:p:=by
 refine hK.out _ _ (HKS.out _ HBX6.out) (fun hHeld11=> ?_)
 clear hK K hHeld10
 open Q638 in exact M635):p:=h
theorem Q521.Y520 (h:p:=by
 have HB0:=Lib.hid hb0;have H0:=Lib.hid H;have HEV:=Lib.hid hev;have HY:=Lib.hid hY;have HS:=Lib.hid hS;have HX0:=Lib.hid hx0;have HZ0:=Lib.hid hz0
 have HFL:=Lib.hid hfl;have HBAT:=Lib.hid hbat
 have HPOS:Hid ((Du h b).1=0->0<b.es.length):=Lib.hid fun q=>by
  rcases Nat.eq_zero_or_pos b.es.length with e|e
  ·exfalso
   have:bOk b=false:=by unfold bOk;rw[e];simp
   unfold Du at q;rw[if_pos this] at q;exact absurd (show (2:Int)=0 from q) (by decide)
  ·exact e
 have HADD:Hid ((Du h b).1=0->(Du h b).2.flow=h.flow/\(Du h b).2.bs=h.bs++ [b]):=Lib.hid fun q=>Lq q
 clear H hev hx0 hb0 hz0 hS hY htot
 replace hW0:=Lib.hid hW0
 obtain⟨m,hm⟩:∃m,m=b.es.length:=⟨_,rfl⟩
 obtain⟨ff,hff⟩:∃ff,ff=b.flow:=⟨_,rfl⟩
 obtain⟨at',hat⟩:∃at',at'=b.at':=⟨_,rfl⟩
 obtain⟨L,hLL⟩:∃L,L=h.bs.length:=⟨_,rfl⟩
 rw[<-hm, <-hff, <-hat] at HT
 rw[<-hm, <-hff, <-hat] at HX0
 rw[<-hff] at a0;rw[<-hat] at a1;rw[<-hm] at a2
 rw[<-hm] at hl40
 rw[<-hff, <-hat, <-hm]
 rw[<-hLL] at hL
 rw[<-hm, <-hff, <-hat] at hW0
 have HM:=Lib.hid hm;have HFF:=Lib.hid hff;have HAT:=Lib.hid hat;have HFLF:Hid (ff.size<=maxLen):=Lib.hid (by rw[hff];exact HFL.out);have HATB:Hid (at'<18446744073709551616):=Lib.hid (by rw[hat];exact HBAT.out);have HLL:=Lib.hid hLL
 clear hm hff hat hLL hfl hbat
 go_enter Tryz.func40,Tryz.ntmps40
 go_upto_region 1 with fail
 rw[<-hW0.out]
 go_wp2_with fail
 refine HT.out.mono ?_
 rintro x w1 ⟨hb1,⟨hc,rfl⟩|⟨hc,ct,cm,ck,n2,rfl,hm3,hn2,k1,k2,k3⟩⟩
 ·have HB1 := Lib.hid (HB0.out.trans (hb1.mono HB0.out.size))
  have HBD:=Lib.hid (Sk hc)
  generalize hcd:(Du h b).1=cd at *
  have HCD:=Lib.hid hcd
  have kc:(cd != 0)=true:=by simpa using hc
  clear hc hb1 hcd
  unfold ZS
  go_wp2_with fail
  go_ret
  have hbw:Below w.heap.size w (w1.alloc (.cells #[.map none,.map none,.map none,.int .u64 0,.int .i64 0] 123)):=HB1.out.alloc HB1.out.size _
  exact⟨by rw[HCD.out];rfl,Chg.of_below hbw,bt,bm,bk,n,A,cap,by rw[HBD.out];exact H0.out.later hbw,fun r hr=> .inl hr⟩
 ·have HB1 := Lib.hid (HB0.out.trans (hb1.mono HB0.out.size))
  have hbs1:=hb1
  obtain⟨hfl2,hbs2⟩:=HADD.out hc
  have hmp:=HPOS.out hc
  rw[<-HM.out] at hmp
  generalize hs2:(Du h b).2=h2 at *
  have HS2:=Lib.hid hs2;have HC:=Lib.hid hc
  obtain⟨W2,hW2⟩:∃W2,W2=w1.alloc (.cells (stC ct cm ck h2.s.next h2.s.closed) 123):=⟨_,rfl⟩
  have hb2:Below w1.heap.size w1 W2:=by rw[hW2];exact(Below.refl _ _).alloc (Nat.le_refl _) _
  have hbw2:Below w.heap.size w W2:=HB1.out.trans (hb2.mono HB1.out.size)
  have hH2:=H0.out.later hbw2
  obtain⟨s0,s1,s2,s3,s4,s5,s6,sf⟩:=FT hH2.blk
  have sf0:=sf 0;have sf1:=sf 1;have sf2:=sf 2;have sf3:=sf 3;have sf4:=sf 4
  rw[<-HLL.out] at s6
  have hst2:W2.heap[w1.heap.size]?=some (.cells (stC ct cm ck h2.s.next h2.s.closed) 123 (0,0)):=by rw[hW2];exact heap_alloc_new _ _
  obtain⟨t0,t1,t2,t3,t4,-,-,-,-,-⟩:=DE hst2
  obtain⟨W3,hW3⟩:∃W3,W3=((((W2.setCell ⟨hb,0,none⟩ (.map (some ct))).setCell ⟨hb,1,none⟩ (.map (some cm))).setCell ⟨hb,2,none⟩ (.map (some ck))).setCell ⟨hb,3,none⟩ (.int .u64 (h2.s.next:Nat))).setCell ⟨hb,4,none⟩ (.int .i64 h2.s.closed):=⟨_,rfl⟩
  have hbl3:W3.heap[hb]?=some (.cells (hC ct cm ck h2.s.next h2.s.closed h.flow A h.bs.length cap) 125 (0,0)):=by rw[hW3];simp[World.setCell,Array.getElem?_modify,hH2.blk,hC]
  have ho3:∀c,c≠hb->W3.heap[c]?=W2.heap[c]?:=fun c hc=>by rw[hW3,RowKit.Below.heap_setCell _ _ _ _ hc,RowKit.Below.heap_setCell _ _ _ _ hc,RowKit.Below.heap_setCell _ _ _ _ hc,RowKit.Below.heap_setCell _ _ _ _ hc,RowKit.Below.heap_setCell _ _ _ _ hc]
  have hz3:W3.heap.size=W2.heap.size:=by rw[hW3];simp[World.setCell]
  have HC3:Hid (Chg (HZ hb A) w W3):=Lib.hid ((Chg.of_below hbw2).trans (by rw[hW3];exact((((Chg.setCell (p:=⟨hb,0,none⟩) (.inl rfl) _).trans (Chg.setCell (p:=⟨hb,1,none⟩) (.inl rfl) _)).trans (Chg.setCell (p:=⟨hb,2,none⟩) (.inl rfl) _)).trans (Chg.setCell (p:=⟨hb,3,none⟩) (.inl rfl) _)).trans (Chg.setCell (p:=⟨hb,4,none⟩) (.inl rfl) _)))
  unfold stC at hW2
  have HW2:=Lib.hid hW2
  have HBL3:=Lib.hid hbl3;have HO3:=Lib.hid ho3;have HZ3:=Lib.hid hz3;have HB2:=Lib.hid hb2;have HBW2:=Lib.hid hbw2;have HM3:=Lib.hid hm3
  have HK:Hid (W0.heap.size<=ct/\W0.heap.size<=cm/\W0.heap.size<=ck):=Lib.hid ⟨k1,k2,k3⟩
  have HN2:=Lib.hid hn2;have HFB:=Lib.hid (And.intro hfl2 hbs2)
  clear hb1 hm3 hn2 k1 k2 k3 hfl2 hbs2 hs2 hc hb2 hbw2 hH2 hst2 hbl3 ho3 hz3 hW2 sf
  unfold stC
  go_upto_region 2 with fail
  rw[<-HW2.out]
  go_upto_region 5 with fail
  rw[<-hW3]
  replace hW3:=Lib.hid hW3
  obtain⟨xs,hown,hcells⟩:=H0.out.row
  have hrlt:=H0.out.row.row_lt
  have hz01:W0.heap.size<=w1.heap.size:=hbs1.size
  have hxl:xs.length=h.bs.length*3:=hown.1
  have hlt0:=H0.out.lt
  have hzw:=HZ0.out
  have hz13:W3.heap.size=w1.heap.size+1:=by rw[HZ3.out];have:=HW2.out;rw[this];simp
  have hold:∀c,c<w1.heap.size->c≠hb->W3.heap[c]?=w1.heap[c]?:=fun c hc hne=>(HO3.out c hne).trans (HB2.out.block c hc)
  have holdw:∀c,c<w.heap.size->c≠hb->W3.heap[c]?=w.heap[c]?:=fun c hc hne=>(hold c (by omega) hne).trans (HB1.out.block c hc)
  have HC6:Hid (∀W,Below W3.heap.size W3 W->W.cell? ⟨hb,6,none⟩=some (.slice A L cap)):=Lib.hid fun W hW=>by
   have:=(hW.block hb (by omega)).trans HBL3.out
   rw[HLL.out]
   exact(FT this).2.2.2.2.2.2.1
  have HKS:Hid (∀W:World,W.heap[w.heap.size]?=W3.heap[w.heap.size]?->(fun W:World=>W.cell? ⟨w.heap.size,0,none⟩=some (.string ff)/\W.cell? ⟨w.heap.size,1,none⟩=some (.int .u64 (at':Nat))/\W.cell? ⟨w.heap.size,2,none⟩=some (.slice A2 m c2)) W):=Lib.hid fun W hW=>by
   have e:BB W w.heap.size ff at' A2 m c2:=hW.trans ((hold _ (by omega) (by omega)).trans ((hbs1.block _ (by omega)).trans HX0.out))
   obtain⟨q0,q1,q2,-⟩:=e.cells
   exact⟨q0,q1,q2⟩
  have HCP:Hid (∀W,Below W3.heap.size W3 W->Calls Tryz.prog 67 #[.agg #[.string ff,.int .u64 (at':Nat),.slice A2 m c2]] W fun r w'=>∃A3 cap3,r= .returned (.agg #[.string ff,.int .u64 (at':Nat),.slice A3 m cap3])/\Below W.heap.size W w'/\EvsAt w' W.heap.size A3 cap3 m b.es):=Lib.hid fun W hW=>by
   have hv:EvsIn (Ds (HZ hb A) W) A2 c2 b.es:=EvsIn.leads HEV.out ((HC3.out.trans (Chg.of_below hW)).leads)
   have:=YS b.es (by rw[<-HM.out];exact hmp) (by rw[<-HM.out];exact hl40) HS.out ff at' A2 c2 W (EvsIn.leads hv (Df _ _))
   rw[<-HM.out] at this
   exact this
  have HFIN:Hid (∀(u w4 W5 w6:World) (A3:Option Addr) (cap3 r2 cap4:Nat),Below W3.heap.size W3 u->Below u.heap.size u w4->EvsAt w4 u.heap.size A3 cap3 m b.es->Below w4.heap.size w4 W5->w6.ownsRow 0 64 3 (.slice (some ⟨r2,0,none⟩) (L+1) cap4) (L+1) (xs++ [.string ff,.int .u64 (at':Nat),.slice A3 m cap3])->W5.grownBy w6 (rowOf A)->(rowOf A=some r2\/r2=W5.heap.size)->r2<w6.heap.size->
    AddOut Y w hb A h b (.returned (.int .i64 0)) (w6.setCell ⟨hb,6,none⟩ (.slice (some ⟨r2,0,none⟩) (L+1) cap4))):=Lib.hid fun u w4 W5 w6 A3 cap3 r2 cap4 hu h4 hev4 h5 hown6 hgrow6 hat6 hrl=>by
   obtain⟨k1,k2,k3⟩:=HK.out
   obtain⟨f1,f2⟩:=HFB.out
   have hm3:=HM3.out
   have z1:=hu.size;have z2:=h4.size;have z3:=h5.size;have z4:=hgrow6.size
   have hr2:r2≠hb:=by
    rcases hat6 with e|e
    ·exact(H0.out.yr r2 e).2
    ·omega
   have hr2r:∀c,c<W5.heap.size->rowOf A≠some c->c≠r2:=fun c hc hne e=>by
    rcases hat6 with q|q
    ·exact hne (e ▸ q)
    ·omega
   have o6:∀c,c<W5.heap.size->c≠hb->rowOf A≠some c->(w6.setCell ⟨hb,6,none⟩ (.slice (some ⟨r2,0,none⟩) (L+1) cap4)).heap[c]?=W5.heap[c]?:=fun c hc hne hrn=>(RowKit.Below.heap_setCell _ _ _ _ hne).trans (hgrow6.block c hc (fun e=>hrn e.symm))
   have o5:∀c,c<W3.heap.size->c≠hb->rowOf A≠some c->(w6.setCell ⟨hb,6,none⟩ (.slice (some ⟨r2,0,none⟩) (L+1) cap4)).heap[c]?=W3.heap[c]?:=fun c hc hne hrn=>(o6 c (by omega) hne hrn).trans ((h5.block c (by omega)).trans ((h4.block c (by omega)).trans (hu.block c hc)))
   have ow:∀c,c<w.heap.size->c≠hb->rowOf A≠some c->(w6.setCell ⟨hb,6,none⟩ (.slice (some ⟨r2,0,none⟩) (L+1) cap4)).heap[c]?=w.heap[c]?:=fun c hc hne hrn=>(o5 c (by omega) hne hrn).trans (holdw c hc hne)
   have o1:∀c,c<w1.heap.size->c≠hb->rowOf A≠some c->(w6.setCell ⟨hb,6,none⟩ (.slice (some ⟨r2,0,none⟩) (L+1) cap4)).heap[c]?=w1.heap[c]?:=fun c hc hne hrn=>(o5 c (by omega) hne hrn).trans (hold c hc hne)
   have hyh:∀c,c<W5.heap.size->¬YH Y hb A c->¬YH Y hb (some ⟨r2,0,none⟩) c:=fun c hc hx q=>by
    rcases q with q|q|q
    ·exact hx (.inl q)
    ·exact hx (.inr (.inl q))
    ·have e : r2 = c := Option.some.inj q
     exact hr2r c hc (fun e'=>hx (.inr (.inr e'))) e.symm
   have hsz:(w6.setCell ⟨hb,6,none⟩ (.slice (some ⟨r2,0,none⟩) (L+1) cap4)).heap.size=w6.heap.size:=by simp[World.setCell]
   have hbz:=hbs1.size
   have hl1:Leads (Ds (YH Y hb A) w1) (Ds (YH Y hb (some ⟨r2,0,none⟩)) (w6.setCell ⟨hb,6,none⟩ (.slice (some ⟨r2,0,none⟩) (L+1) cap4))):=Dp (by omega) fun c hc hx=>⟨hyh c (by omega) hx,o1 c hc (fun e=>hx (.inr (.inl e))) (fun e=>hx (.inr (.inr e)))⟩
   have hl0:Leads (Ds (YH Y hb A) w) (Ds (YH Y hb (some ⟨r2,0,none⟩)) (w6.setCell ⟨hb,6,none⟩ (.slice (some ⟨r2,0,none⟩) (L+1) cap4))):=Dp (by omega) fun c hc hx=>⟨hyh c (by omega) hx,ow c hc (fun e=>hx (.inr (.inl e))) (fun e=>hx (.inr (.inr e)))⟩
   have hnY:∀c,w.heap.size<c->c<W5.heap.size->¬YH Y hb A c:=fun c hc hc2 q=>by
    rcases q with q|q|q
    ·have:=HY.out c q;omega
    ·omega
    ·have:=hrlt c q;omega
   have hnr:∀c,w.heap.size<c->rowOf A≠some c:=fun c hc q=>by have:=hrlt c q;omega
   refine⟨by rw[HC.out],?_,ct,cm,ck,n2,some ⟨r2,0,none⟩,cap4,?_,fun r hr=> ?_⟩
   ·refine HC3.out.trans ⟨?_, ?_, ?_, by omega, fun c hc hx => o5 c hc (fun e => hx (.inl e)) (fun e => hx (.inr e))⟩
    ·exact(hgrow6.os).trans (h5.os.trans (h4.os.trans hu.os))
    ·exact(hgrow6.tape).trans (h5.tape.trans (h4.tape.trans hu.tape))
    ·exact(hgrow6.output).trans (h5.output.trans (h4.output.trans hu.output))
   ·rw [HS2.out]
    have hlen:h2.bs.length=L+1:=by rw[f2,List.length_append,HLL.out];rfl
    refine ⟨?_, ⟨hm3.tasks.keep (o1 ct hm3.tasks.lt (by omega) (hnr ct (by omega))) hl1, hm3.timers.keep (o1 cm hm3.timers.lt (by omega) (hnr cm (by omega))), hm3.keys.keep (o1 ck hm3.keys.lt (by omega) (hnr ck (by omega)))⟩, ?_, H0.out.yb,
     hyh ct (by have:=hm3.tasks.lt;omega) (hnY ct (by omega) (by have:=hm3.tasks.lt;omega)),hyh cm (by have:=hm3.timers.lt;omega) (hnY cm (by omega) (by have:=hm3.timers.lt;omega)),hyh ck (by have:=hm3.keys.lt;omega) (hnY ck (by omega) (by have:=hm3.keys.lt;omega)),fun r hr=> ?_,?_,?_,?_⟩
    ·have e6 : w6.heap[hb]? = some (.cells (hC ct cm ck h2.s.next h2.s.closed h.flow A h.bs.length cap) 125 (0, 0)) := (hgrow6.block hb (by omega) (fun e => (H0.out.yr hb e.symm).2 rfl)).trans ((h5.block hb (by omega)).trans ((h4.block hb (by omega)).trans ((hu.block hb (by omega)).trans HBL3.out)))
     rw[hlen,f1]
     simp[World.setCell,Array.getElem?_modify,e6,hC]
    ·rw [f2]
     refine⟨xs++ [.string ff,.int .u64 (at':Nat),.slice A3 m cap3],?_,fun i hi=> ?_⟩
     ·have := Dx (w' := w6.setCell ⟨hb, 6, none⟩ (.slice (some ⟨r2, 0, none⟩) (L + 1) cap4)) hown6 (fun r hr => RowKit.Below.heap_setCell _ _ _ _ (by have e : r2 = r := Option.some.inj hr; show r ≠ hb; omega))
      rw[List.length_append, <-HLL.out]
      exact this
     ·have hL3 : xs.length = L * 3 := by rw [hxl, HLL.out]
      by_cases hil:i<h.bs.length
      ·rw [List.getElem_append_left hil]
       obtain⟨A4,c4,q1,q2,q3,q4,q5,q6⟩:=(hcells i hil).leads hl0
       have hil':i<L:=by rw[HLL.out];exact hil
       exact⟨A4,c4,q1,q2,q3,by rw[List.getElem?_append_left (by omega)];exact q4,by rw[List.getElem?_append_left (by omega)];exact q5,by rw[List.getElem?_append_left (by omega)];exact q6⟩
      ·have hiL : i = h.bs.length := by rw [List.length_append] at hi; simp at hi; omega
       subst hiL
       rw[List.getElem_append_right (Nat.le_refl _)]
       simp only[Nat.sub_self,List.getElem_cons_zero]
       refine⟨A3,cap3,by rw[<-HFF.out];exact HFLF.out,by rw[<-HAT.out];exact HATB.out,?_,?_,?_,?_⟩
       ·refine Cm.EvsAt.read (n := m) (base := u.heap.size) (Km hev4 (by rw [DM]; omega) fun c hc1 hc2 => ?_)
        rw[FB (hyh c (by omega) (hnY c (by omega) (by omega)))]
        exact(o6 c (by omega) (by omega) (hnr c (by omega))).trans (h5.block c hc2)
       ·rw[List.getElem?_append_right (by omega),show h.bs.length*3-xs.length=0 by omega, <-HFF.out];rfl
       ·rw[List.getElem?_append_right (by omega),show h.bs.length*3+1-xs.length=1 by omega, <-HAT.out];rfl
       ·rw[List.getElem?_append_right (by omega),show h.bs.length*3+2-xs.length=2 by omega, <-HM.out];rfl
    ·have e : r2 = r := Option.some.inj hr
     subst e
     refine⟨fun q=> ?_,hr2⟩
     rcases hat6 with e|e
     ·exact(H0.out.yr r2 e).1 q
     ·have:=HY.out r2 q;omega
    ·have := VQ H0.out.fine b
     rw[HS2.out] at this
     exact this
    ·rw[f2,GA];exact HN2.out
    ·rw[f1];exact H0.out.fl
   ·have e : r2 = r := Option.some.inj hr
    rcases hat6 with q|q
    ·exact .inl (e ▸ q)
    ·exact .inr (by omega)
  have HOW:Hid (∀W,Below W3.heap.size W3 W->W.ownsRow 0 64 3 (.slice A L cap) L xs):=Lib.hid fun W hW=>by
   have:=Dx (w':=W) hown (fun r hr=>(hW.block r (by have:=hrlt r hr;omega)).trans (holdw r (hrlt r hr) (H0.out.yr r hr).2))
   rw[HLL.out];exact this
  have HRL:Hid (∀r,rowOf A=some r->r<w.heap.size):=Lib.hid hrlt
  have HHB:Hid (hb<w.heap.size/\rowOf A≠some hb/\w.heap.size<W3.heap.size):=Lib.hid ⟨hlt0,fun e=>(H0.out.yr hb e).2 rfl,by omega⟩
  clear hown hcells hrlt hz01 hxl hlt0 hzw hz13 hold holdw s0 s1 s2 s3 s4 s5 s6 sf0 sf1 sf2 sf3 sf4 t0 t1 t2 t3 t4 a0 a1 a2 hbs1
  obtain⟨u0,hu0⟩:∃u,u=W3.drew:=⟨_,rfl⟩
  have HD0:Hid (Below W3.heap.size W3 u0):=Lib.hid (by rw[hu0];exact Da (Below.refl _ _))
  refine wp_region_noPanic ?_
  refine wp_region_held_drew (S:=(fun W:World=>W.cell? ⟨w.heap.size,0,none⟩=some (.string ff)/\W.cell? ⟨w.heap.size,1,none⟩=some (.int .u64 (at':Nat))/\W.cell? ⟨w.heap.size,2,none⟩=some (.slice A2 m c2))) (by kernel_rfl) ?_ (fun hHeld=> ?_)
  ·exact HKS.out _ rfl
  rw[<-hu0] at hHeld
  rw[<-hu0]
  replace hu0:=Lib.hid hu0
  refine tk 0 rfl ?_
  refine tk 1 rfl ?_
  refine tk 2 rfl ?_
  refine tk 3 rfl ?_
  refine tk 5 rfl ?_
  refine rd2 4 6 rfl rfl (fun K hK=> ?_) fun K hK=> ?_
  ·have cx := HC6.out u0 HD0.out
   go_simp
   refine hK.out _ _ (HKS.out _ (HD0.out.block _ HHB.out.2.2)) (fun hHeld1=> ?_)
   clear hK K cx hHeld
   try simp only[ap]
   refine rd1 6 rfl fun K hK=> ?_
   go_simp
   (with_reducible refine(HCP.out u0 HD0.out).mono ?_)
   rintro e2 w2_ ⟨A3,cap3,rfl,hb9,hev9⟩
   have HD2:Hid (Below W3.heap.size W3 w2_):=Lib.hid (HD0.out.trans (hb9.mono HD0.out.size))
   have HB42:=Lib.hid hb9;have HEV42:=Lib.hid hev9
   clear hb9 hev9
   go_wp2_with fail
   refine hK.out _ _ (HKS.out _ (HD2.out.block _ HHB.out.2.2)) (fun hHeld2=> ?_)
   clear hK K hHeld1
   try simp only[ap]
   refine rd1 7 rfl fun K hK=> ?_
   go_simp
   obtain⟨u3,hu3⟩:∃u,u=w2_.alloc (.cells #[.string ff,.int .u64 (at':Nat),.slice A3 m cap3] 64):=⟨_,rfl⟩
   rw[<-hu3]
   have hbz:Below w2_.heap.size w2_ u3:=by rw[hu3];exact(Below.refl _ _).alloc (Nat.le_refl _) _
   have HD3:Hid (Below W3.heap.size W3 u3):=Lib.hid (HD2.out.trans (hbz.mono HD2.out.size))
   have HB53:=Lib.hid hbz
   have HN53:Hid (∀q y,([.string ff,.int .u64 (at':Nat),.slice A3 m cap3]:List Value)[q]?=some y->u3.cell? ((⟨w2_.heap.size,0,none⟩:Addr).add q)=some y):=Lib.hid (World.news_of_block (t:=64) (fr:=(0,0)) (by rw[hu3];exact heap_alloc_new w2_ _))
   clear hbz
   replace hu3:=Lib.hid hu3
   refine hK.out _ _ (HKS.out _ (HD3.out.block _ HHB.out.2.2)) (fun hHeld3=> ?_)
   clear hK K hHeld2
   try simp only[ap]
   refine rd1 8 rfl fun K hK=> ?_
   refine step_append_lies u3 rfl _ _ 22 rfl 0 64 i0 _ 3 48 Tryz.underlying22 hi0 hiz0 hiz1 hiz2 rfl (by decide) (.slice A L cap) L xs rfl (HOW.out _ HD3.out) ⟨w2_.heap.size,0,none⟩ 1 1 [.string ff,.int .u64 (at':Nat),.slice A3 m cap3] rfl rfl HN53.out (by intro u hu;simp at hu;rcases hu with rfl|rfl|rfl<;>rfl) (by decide) (by simp only[maxLen];omega) (by omega) (Nat.zero_le _) _ rfl ?_
   intro r2 cap4 w6 hown6 hgrow6 hat6 hrl6
   rw[Cm.Fa] at hgrow6 hat6
   have HOUT:=Lib.hid (HFIN.out u0 w2_ u3 w6 A3 cap3 r2 cap4 HD0.out HB42.out HEV42.out HB53.out hown6 hgrow6 hat6 hrl6)
   have hcx:w6.heap[hb]?=W3.heap[hb]?:=(hgrow6.block hb (by have:=HD3.out.size;have:=HHB.out;omega) (fun e=>HHB.out.2.1 e.symm)).trans (HD3.out.block hb (by have:=HHB.out;omega))
   have hbx6:w6.heap[w.heap.size]?=W3.heap[w.heap.size]?:=(hgrow6.block _ (by have:=HD3.out.size;have:=HHB.out;omega) (fun e=>by have:=HRL.out _ e.symm;omega)).trans (HD3.out.block _ HHB.out.2.2)
   open Q705 in exact M704
  ·go_simp
   (with_reducible refine(HCP.out u0 HD0.out).mono ?_)
   rintro e5 w5_ ⟨A3,cap3,rfl,hb9,hev9⟩
   have HD5:Hid (Below W3.heap.size W3 w5_):=Lib.hid (HD0.out.trans (hb9.mono HD0.out.size))
   have HB45:=Lib.hid hb9;have HEV45:=Lib.hid hev9
   clear hb9 hev9
   go_wp2_with fail
   refine hK.out _ _ (HKS.out _ (HD5.out.block _ HHB.out.2.2)) (fun hHeld5=> ?_)
   clear hK K hHeld
   try simp only[ap]
   refine rd2 4 7 rfl rfl (fun K hK=> ?_) fun K hK=> ?_
   ·have cx := HC6.out w5_ HD5.out
    go_simp
    refine hK.out _ _ (HKS.out _ (HD5.out.block _ HHB.out.2.2)) (fun hHeld6=> ?_)
    clear hK K cx hHeld5
    try simp only[ap]
    refine rd1 7 rfl fun K hK=> ?_
    go_simp
    obtain⟨u7,hu7⟩:∃u,u=w5_.alloc (.cells #[.string ff,.int .u64 (at':Nat),.slice A3 m cap3] 64):=⟨_,rfl⟩
    rw[<-hu7]
    have hbz:Below w5_.heap.size w5_ u7:=by rw[hu7];exact(Below.refl _ _).alloc (Nat.le_refl _) _
    have HD7:Hid (Below W3.heap.size W3 u7):=Lib.hid (HD5.out.trans (hbz.mono HD5.out.size))
    have HB57:=Lib.hid hbz
    have HN57:Hid (∀q y,([.string ff,.int .u64 (at':Nat),.slice A3 m cap3]:List Value)[q]?=some y->u7.cell? ((⟨w5_.heap.size,0,none⟩:Addr).add q)=some y):=Lib.hid (World.news_of_block (t:=64) (fr:=(0,0)) (by rw[hu7];exact heap_alloc_new w5_ _))
    clear hbz
    replace hu7:=Lib.hid hu7
    refine hK.out _ _ (HKS.out _ (HD7.out.block _ HHB.out.2.2)) (fun hHeld7=> ?_)
    clear hK K hHeld6
    try simp only[ap]
    refine rd1 8 rfl fun K hK=> ?_
    refine step_append_lies u7 rfl _ _ 22 rfl 0 64 i0 _ 3 48 Tryz.underlying22 hi0 hiz0 hiz1 hiz2 rfl (by decide) (.slice A L cap) L xs rfl (HOW.out _ HD7.out) ⟨w5_.heap.size,0,none⟩ 1 1 [.string ff,.int .u64 (at':Nat),.slice A3 m cap3] rfl rfl HN57.out (by intro u hu;simp at hu;rcases hu with rfl|rfl|rfl<;>rfl) (by decide) (by simp only[maxLen];omega) (by omega) (Nat.zero_le _) _ rfl ?_
    intro r2 cap4 w6 hown6 hgrow6 hat6 hrl6
    rw[Cm.Fa] at hgrow6 hat6
    have HOUT:=Lib.hid (HFIN.out u0 w5_ u7 w6 A3 cap3 r2 cap4 HD0.out HB45.out HEV45.out HB57.out hown6 hgrow6 hat6 hrl6)
    have hcx:w6.heap[hb]?=W3.heap[hb]?:=(hgrow6.block hb (by have:=HD7.out.size;have:=HHB.out;omega) (fun e=>HHB.out.2.1 e.symm)).trans (HD7.out.block hb (by have:=HHB.out;omega))
    have hbx6:w6.heap[w.heap.size]?=W3.heap[w.heap.size]?:=(hgrow6.block _ (by have:=HD7.out.size;have:=HHB.out;omega) (fun e=>by have:=HRL.out _ e.symm;omega)).trans (HD7.out.block _ HHB.out.2.2)
    open Q706 in exact M704
   ·go_simp
    obtain⟨u9,hu9⟩:∃u,u=w5_.alloc (.cells #[.string ff,.int .u64 (at':Nat),.slice A3 m cap3] 64):=⟨_,rfl⟩
    rw[<-hu9]
    have hbz:Below w5_.heap.size w5_ u9:=by rw[hu9];exact(Below.refl _ _).alloc (Nat.le_refl _) _
    have HD9:Hid (Below W3.heap.size W3 u9):=Lib.hid (HD5.out.trans (hbz.mono HD5.out.size))
    have HB59:=Lib.hid hbz
    have HN59:Hid (∀q y,([.string ff,.int .u64 (at':Nat),.slice A3 m cap3]:List Value)[q]?=some y->u9.cell? ((⟨w5_.heap.size,0,none⟩:Addr).add q)=some y):=Lib.hid (World.news_of_block (t:=64) (fr:=(0,0)) (by rw[hu9];exact heap_alloc_new w5_ _))
    clear hbz
    replace hu9:=Lib.hid hu9
    refine hK.out _ _ (HKS.out _ (HD9.out.block _ HHB.out.2.2)) (fun hHeld9=> ?_)
    clear hK K hHeld5
    try simp only[ap]
    refine rd1 4 rfl fun K hK=> ?_
    have cx:=HC6.out u9 HD9.out
    go_simp
    refine hK.out _ _ (HKS.out _ (HD9.out.block _ HHB.out.2.2)) (fun hHeld10=> ?_)
    clear hK K cx hHeld9
    try simp only[ap]
    refine rd1 8 rfl fun K hK=> ?_
    refine step_append_lies u9 rfl _ _ 22 rfl 0 64 i0 _ 3 48 Tryz.underlying22 hi0 hiz0 hiz1 hiz2 rfl (by decide) (.slice A L cap) L xs rfl (HOW.out _ HD9.out) ⟨w5_.heap.size,0,none⟩ 1 1 [.string ff,.int .u64 (at':Nat),.slice A3 m cap3] rfl rfl HN59.out (by intro u hu;simp at hu;rcases hu with rfl|rfl|rfl<;>rfl) (by decide) (by simp only[maxLen];omega) (by omega) (Nat.zero_le _) _ rfl ?_
    intro r2 cap4 w6 hown6 hgrow6 hat6 hrl6
    rw[Cm.Fa] at hgrow6 hat6
    have HOUT:=Lib.hid (HFIN.out u0 w5_ u9 w6 A3 cap3 r2 cap4 HD0.out HB45.out HEV45.out HB59.out hown6 hgrow6 hat6 hrl6)
    have hcx:w6.heap[hb]?=W3.heap[hb]?:=(hgrow6.block hb (by have:=HD9.out.size;have:=HHB.out;omega) (fun e=>HHB.out.2.1 e.symm)).trans (HD9.out.block hb (by have:=HHB.out;omega))
    have hbx6:w6.heap[w.heap.size]?=W3.heap[w.heap.size]?:=(hgrow6.block _ (by have:=HD9.out.size;have:=HHB.out;omega) (fun e=>by have:=HRL.out _ e.symm;omega)).trans (HD9.out.block _ HHB.out.2.2)
    open Q707 in exact M704):p:=h
theorem Lp (H : HAt Y w hb bt bm bk n A cap h) (hY : ∀ b, Y b -> b < w.heap.size) (b : BT) (A2 : Option Addr) (c2 : Nat) (hev : EvsIn (Ds (HZ hb A) w) A2 c2 b.es) (hbat : b.at' < 18446744073709551616) (hS : ∀ i (h : i < b.es.length), b.es[i].v.Slim 900) (hl40 : b.es.length <= 1099511627776)
  (htot:tot h.bs+b.es.length<=8796093022208) (hfl:b.flow.size<=maxLen) (hL:h.bs.length<=1000000000) :
  Calls Tryz.prog 40 #[.pointer (some ⟨hb,0,none⟩),.agg #[.string b.flow,.int .u64 (b.at':Nat),.slice A2 b.es.length c2]] w (AddOut Y w hb A h b):=by
 obtain⟨i0,hi0,hiz0,hiz1,hiz2⟩:=info_parts Tryz.infoBt
 open Q521 in exact M520
theorem YQ (f:ByteArray)(hf:f.size<=maxLen)(w:World)(Y:Nat->Prop)(hY:∀b,Y b->b<w.heap.size):Calls Tryz.prog 39 #[.string f] w fun r w'=>∃hb bt bm bk,r= .returned (.pointer (some ⟨hb,0,none⟩))/\Below w.heap.size w w'/\w.heap.size<=hb/\HAt Y w' hb bt bm bk 0 none 0 (HM.new f):=by
 have hmm:= @run_makeMap Tryz.prog
 have HY:=Lib.hid hY
 clear hY
 go_enter Tryz.func39,Tryz.ntmps39
 go_wp2_with fail
 go_ret
 obtain⟨W1,hW1⟩:∃W1,W1=w.alloc (.map #[] 0):=⟨_,rfl⟩
 have z1:W1.heap.size=w.heap.size+1:=by rw[hW1];simp
 rw[<-hW1]
 obtain⟨W2,hW2⟩:∃W2,W2=W1.alloc (.map #[] 0):=⟨_,rfl⟩
 have z2:W2.heap.size=w.heap.size+1+1:=by rw[hW2];simp[z1]
 rw[<-hW2]
 obtain⟨W3,hW3⟩:∃W3,W3=W2.alloc (.map #[] 0):=⟨_,rfl⟩
 have z3:W3.heap.size=w.heap.size+1+1+1:=by rw[hW3];simp[z2]
 rw[<-hW3]
 obtain⟨W4,hW4⟩:∃W4,W4=W3.alloc (.cells #[.map (some w.heap.size),.map (some (w.heap.size+1)),.map (some (w.heap.size+1+1)),.int .u64 1,.int .i64 0,.string f,.slice none 0 0] 125):=⟨_,rfl⟩
 have z4:W4.heap.size=w.heap.size+1+1+1+1:=by rw[hW4];simp[z3]
 rw[<-hW4]
 have b1:Below w.heap.size w W1:=by rw[hW1];exact(Below.refl _ _).alloc (Nat.le_refl _) _
 have b2:Below W1.heap.size W1 W2:=by rw[hW2];exact(Below.refl _ _).alloc (Nat.le_refl _) _
 have b3:Below W2.heap.size W2 W3:=by rw[hW3];exact(Below.refl _ _).alloc (Nat.le_refl _) _
 have b4:Below W3.heap.size W3 W4:=by rw[hW4];exact(Below.refl _ _).alloc (Nat.le_refl _) _
 have n0:TMap W1 (Ds (YH Y (w.heap.size+1+1+1) none) W4) w.heap.size 0 []:=by rw[hW1];exact TMap.made w _
 have n1:MMap W2 (w.heap.size+1) 0 []:=by rw[hW2, <-z1];exact MMap.made W1
 have n2:KMap W3 (w.heap.size+1+1) 0 []:=by rw[hW3, <-z2];exact KMap.made W2
 have nY:∀c,w.heap.size<=c->c≠w.heap.size+1+1+1->¬YH Y (w.heap.size+1+1+1) none c:=fun c hc hne q=>by
  rcases q with q|q|q
  ·have:=HY.out c q;omega
  ·exact hne q
  ·cases q
 refine⟨w.heap.size+1+1+1,w.heap.size,w.heap.size+1,w.heap.size+1+1,rfl,((b1.trans (b2.mono (by omega))).trans (b3.mono (by omega))).trans (b4.mono (by omega)),by omega,?_,?_,BRow.nil _ _,fun q=>by have:=HY.out _ q;omega,nY _ (by omega) (by omega),nY _ (by omega) (by omega),nY _ (by omega) (by omega),fun r hr=>(by cases hr),VP f,Nat.zero_le _,hf⟩
 ·rw[hW4, <-z3];exact heap_alloc_new _ _
 ·exact⟨n0.keep ((b4.block _ (by omega)).trans ((b3.block _ (by omega)).trans (b2.block _ (by omega)))) (Leads.refl _),n1.keep ((b4.block _ (by omega)).trans (b3.block _ (by omega))),n2.keep (b4.block _ (by omega))⟩
def NCell (w:World)(base:Nat)(ro:Option Nat)(xs:List Value)(i:Nat)(b:BT):Prop:=∃(u:World) (lo:Nat) (A':Option Addr) (c:Nat),b.flow.size<=maxLen/\b.at'<18446744073709551616/\EvsAt u lo A' c b.es.length b.es/\base<=lo/\u.heap.size<=w.heap.size/\(∀k,lo<=k->k<u.heap.size->w.heap[k]?=u.heap[k]?)/\(∀r,ro=some r->r<lo\/u.heap.size<=r)/\
 xs[i*3]?=some (.string b.flow)/\xs[i*3+1]?=some (.int .u64 (b.at':Nat))/\xs[i*3+2]?=some (.slice A' b.es.length c)
def BNew (w:World)(base:Nat)(A:Option Addr)(cap:Nat)(bl:List BT):Prop:=∃xs,w.ownsRow base 64 3 (.slice A bl.length cap) bl.length xs/\∀i (h:i<bl.length),NCell w base (rowOf A) xs i bl[i]
theorem BNew.nil (w:World)(base:Nat):BNew w base none 0 []:=⟨[],⟨rfl,.inl ⟨rfl,rfl⟩⟩,fun i h=>absurd h (by simp)⟩
def BsOk (bs:List BT):Prop:=∀b∈bs,b.es.length<=1099511627776/\∀i (h:i<b.es.length),b.es[i].v.Slim 900
open Cn (Vj PV GY)
def Xc (s:ST):Prop:=∀t∈s.tasks,t.v.Slim 900
theorem Kz {now:Nat}{alone:Bool}{e:EV}{s s':ST}(hs:Xc s)(he:e.v.Slim 900)(h:Dc now alone e s=some s'):Xc s':=by
 have hput:∀(t t':TK),t∈s.tasks->t'.v=t.v->Xc {s with tasks:=FN s.tasks t'}:=fun t t' ht hv x hx=>by
  obtain⟨y,hy,e⟩:=List.mem_map.1 (show x∈s.tasks.map _ from hx)
  split at e
  ·rw[<-e,hv];exact hs t ht
  ·rw[<-e];exact hs y hy
 unfold Dc at h
 split at h
 ·split at h
  ·rename_i t ht
   split at h
   ·cases h;exact hput t _ (Fq ht).1 rfl
   ·cases h
  ·cases h
 ·split at h
  ·split at h
   ·rename_i t ht
    split at h
    ·split at h
     ·cases h;exact fun x hx=>hs x (List.mem_filter.1 hx).1
     ·split at h
      ·cases h;exact hput t _ (Fq ht).1 rfl
      ·cases h
    ·cases h
   ·cases h
  ·split at h
   ·split at h
    ·split at h
     ·cases h;exact hs
     ·cases h
    ·cases h
   ·split at h
    ·split at h
     ·cases h
     ·cases h;exact hs
    ·split at h
     ·split at h
      ·cases h
       intro x hx
       rcases List.mem_append.1 hx with q|q
       ·exact hs x q
       ·rw[List.mem_singleton.1 q];exact he
      ·cases h
     ·split at h
      ·split at h
       ·cases h;exact hs
       ·cases h
      ·split at h
       ·split at h
        ·cases h;exact fun x hx=>absurd hx (by simp)
        ·cases h
       ·cases h;exact hs
theorem VH {now : Nat} : ∀ (es : List EV) (first : Bool) (s s' : ST), Xc s -> (∀ e ∈ es, e.v.Slim 900) -> runM now es first s = some s' -> Xc s'
 | [],_,s,s',hs,_,h=>by cases h;exact hs
 | e :: r, first, s, s', hs, he, h => by
  unfold runM at h
  split at h
  ·cases ha:Dc now r.isEmpty e s with
   | none=>rw[ha] at h;cases h
   | some s1=>
    rw[ha] at h
    exact VH r false s1 s' (Kz hs (he e (by simp)) ha) (fun x hx=>he x (by simp[hx])) h
  ·cases h
structure Good (h : HM) (T N : Nat) : Prop where
 tot:tot h.bs<=T
 len:h.bs.length<=N
 keys:h.s.keys.length<=Hi.tot h.bs
 bs:BsOk h.bs
 slim:Xc h.s
 fine:PA h
theorem good_new (f:ByteArray):Good (HM.new f) 0 0:=⟨by simp[HM.new,tot],by simp[HM.new],by simp[HM.new],fun b hb=>by simp[HM.new] at hb,fun t ht=>by simp[HM.new] at ht,VP f⟩
theorem Good.mono {h:HM}{T N T' N':Nat}(g:Good h T N)(ht:T<=T')(hn:N<=N'):Good h T' N':=⟨Nat.le_trans g.tot ht,Nat.le_trans g.len hn,g.keys,g.bs,g.slim,g.fine⟩
theorem Q518.Y517 (h:p:=by
 cases hrun:runM b.at' b.es true h.s with
 | none=>rw[hrun] at hr;rw[hr] at hc;exact absurd (show (12:Int)=0 from hc) (by decide)
 | some s'=>
  rw[hrun] at hr
  rw[hr]
  have:=(SA _ _ _ _ hrun).2
  have:=g.keys
  show s'.keys.length<=_
  omega):p:=h
theorem Q519.Y517 (h:p:=by
 cases hrun:runM b.at' b.es true h.s with
 | none=>rw[hrun] at hr;rw[hr] at hc;exact absurd (show (12:Int)=0 from hc) (by decide)
 | some s'=>
  rw[hrun] at hr
  rw[hr]
  exact VH _ _ _ _ g.slim (fun e he=>by
   obtain⟨i,hi,rfl⟩:=List.mem_iff_getElem.1 he
   exact hs i hi) hrun):p:=h
theorem M517 (h:p:=by
 have p1:¬bOk b=false:=fun q=>by rw[addM_2 q] at hc;exact absurd (show (2:Int)=0 from hc) (by decide)
 have p2:b.flow=h.flow:=Classical.byContradiction fun q=>by rw[addM_6 p1 q] at hc;exact absurd (show (6:Int)=0 from hc) (by decide)
 have p3:h.s.closed=0:=Classical.byContradiction fun q=>by rw[addM_8 p1 p2 q] at hc;exact absurd (show (8:Int)=0 from hc) (by decide)
 have p4:¬(b.at'<h.at'\/¬(Oo b=1↔h.bs= [])):=fun q=>by rw[Lr p1 p2 p3 q] at hc;exact absurd (show (12:Int)=0 from hc) (by decide)
 have hr:=Sj p1 p2 p3 p4
 exact Y517):p:=h
theorem good_add {h:HM}{T N:Nat}(g:Good h T N)(b:BT)(hl:b.es.length<=1099511627776)(hs:∀i (h:i<b.es.length),b.es[i].v.Slim 900):Good (Du h b).2 (T+b.es.length) (N+1):=by
 by_cases hc:(Du h b).1=0
 ·have hbs := (Lq hc).2
  refine⟨by rw[hbs,GA];have:=g.tot;omega,by rw[hbs,List.length_append];have:=g.len;simp;omega,?_,?_,?_,VQ g.fine b⟩
  ·rw [hbs, GA]
   open Q518 in exact M517
  ·rw [hbs]
   intro x hx
   rcases List.mem_append.1 hx with q|q
   ·exact g.bs x q
   ·rw[List.mem_singleton.1 q];exact⟨hl,hs⟩
  ·open Q519 in exact M517
 ·rw [Sk hc]
  exact g.mono (by omega) (by omega)
structure BIn (b : BT) : Prop where
 len:b.es.length<=1099511627776
 slim:∀i (h:i<b.es.length),b.es[i].v.Slim 900
theorem Ud (M : Nat) : ∀ (l : List BT), (∀ b ∈ l, b.es.length <= M) -> (PV l < 100 -> tot l = PV l) /\ (PV l <= 199 -> tot l <= M + PV l)
 | [],_=>by simp[PV,tot]
 | b::l,h=>by
  obtain⟨h1,h2⟩:=Ud M l fun x hx=>h x (by simp[hx])
  have hb:=h b (by simp)
  have e1:PV (b::l)=min b.es.length 100+PV l:=by simp[PV]
  have e2:tot (b::l)=b.es.length+tot l:=by simp[tot]
  rw[e1,e2]
  constructor
  ·intro q
   have:=h1 (by omega)
   omega
  ·intro q
   by_cases hc:b.es.length<=100
   ·have:=h2 (by omega);omega
   ·have:=h1 (by omega);omega
theorem few_slim {bl:List BT}(h:Vj bl)(i:Nat)(hi:i<bl.length):∀k (hk:k<bl[i].es.length),bl[i].es[k].v.Slim 900:=fun k hk=>by
 have h1:=h.few i hi k hk
 unfold GY at h1
 simp only[Bool.and_eq_true] at h1
 exact Vt.SP _ h1.1.1
structure LIn (bl : List BT) : Prop where
 len:bl.length<=60
 tot:tot bl<=1099511628000
 bin:∀i (h:i<bl.length),BIn bl[i]
theorem Xw {bl:List BT}(hf:Vj bl)(hl:∀b∈bl,b.es.length<=1099511627775):LIn bl:=
 ⟨hf.len,by have:=(Ud 1099511627775 bl hl).2 (by have:=hf.sum;omega);have:=hf.sum;omega,fun i hi=>⟨by have:=hl _ (List.getElem_mem hi);omega,few_slim hf i hi⟩⟩
theorem LIn.take {bl:List BT}(h:LIn bl)(j:Nat)(hj:j<bl.length):Hi.tot (bl.take j)+bl[j].es.length<=1099511628000:=by
 rw[<-Yd _ _ hj]
 have:Hi.tot (bl.take (j+1))<=Hi.tot bl:=by
  have e:Hi.tot bl=Hi.tot (bl.take (j+1))+Hi.tot (bl.drop (j+1)):=by
   unfold Hi.tot
   rw[<-List.sum_append, <-List.map_append,List.take_append_drop]
  omega
 have:=h.tot;omega
open Cn (Dy)
structure XM where mk ::
 flows:List HM
 all:List BT
def XM.new : XM:=⟨[],[]⟩
def Fw : List BT -> Nat
 | []=>0
 | b::r=>max b.at' (Fw r)
def XM.clock (x:XM):Nat:=Fw x.all
theorem Vs (l r:List BT):Fw (l++r)=max (Fw l) (Fw r):=by
 induction l with
 | nil=>simp[Fw]
 | cons b l ih=>simp only[List.cons_append,Fw,ih,Nat.max_assoc]
theorem Pg (l:List BT)(b:BT):Fw (l++ [b])=max (Fw l) b.at':=by rw[Vs];simp[Fw]
theorem Jj (l:List BT)(j:Nat)(h:j<l.length):Fw (l.take (j+1))=max (Fw (l.take j)) l[j].at':=by rw[List.take_succ_eq_append_getElem h,Pg]
def Dr (l:List HM)(f:ByteArray):Option Nat:=l.findIdx? fun h=>decide (h.flow=f)
theorem DL {l:List HM}{f:ByteArray}{i:Nat}(h:Dr l f=some i):∃hi:i<l.length,l[i].flow=f/\∀j (hj:j<i),l[j].flow≠f:=by
 unfold Dr at h
 rw[List.findIdx?_eq_some_iff_getElem] at h
 obtain⟨h1,h2,h3⟩:=h
 exact⟨h1,by simpa using h2,fun j hj=>by simpa using h3 j hj⟩
theorem GI {l:List HM}{f:ByteArray}(h:Dr l f=none):∀g∈l,g.flow≠f:=by
 unfold Dr at h
 rw[List.findIdx?_eq_none_iff] at h
 intro g hg
 simpa using h g hg
def DI (x : XM) (f : ByteArray) : HM := match Dr x.flows f with
 | some i=>x.flows.getD i (HM.new f)
 | none=>HM.new f
def DD (x:XM)(b:BT):Int×XM:=
 if Dy b.flow b.at' b.es=false then (2,x)
 else if b.at'<x.clock then (12,x)
 else if (Du (DI x b.flow) b).1≠0 then ((Du (DI x b.flow) b).1,x)
 else match Dr x.flows b.flow with
  | some i=>(0,⟨x.flows.set i (Du (DI x b.flow) b).2,x.all++ [b]⟩)
  | none=>(0,⟨x.flows++ [(Du (DI x b.flow) b).2],x.all++ [b]⟩)
theorem Ow {x:XM}{b:BT}(h:(DD x b).1≠0):(DD x b).2=x:=by
 unfold DD at h ⊢
 split
 ·rfl
 ·rename_i h1
  rw[if_neg h1] at h
  split
  ·rfl
  ·rename_i h2
   rw[if_neg h2] at h
   split
   ·rfl
   ·rename_i h3
    rw[if_neg h3] at h
    cases hf:Dr x.flows b.flow with
    | none=>rw[hf] at h;exact absurd rfl h
    | some i=>rw[hf] at h;exact absurd rfl h
theorem GK {x:XM}{b:BT}(h:(DD x b).1=0):(DD x b).2.all=x.all++ [b]/\(Du (DI x b.flow) b).1=0/\Dy b.flow b.at' b.es=true/\x.clock<=b.at':=by
 unfold DD at h ⊢
 by_cases h1:Dy b.flow b.at' b.es=false
 ·rw[if_pos h1] at h;exact absurd (show (2:Int)=0 from h) (by decide)
 ·rw [if_neg h1] at h ⊢
  by_cases h2:b.at'<x.clock
  ·rw[if_pos h2] at h;exact absurd (show (12:Int)=0 from h) (by decide)
  ·rw [if_neg h2] at h ⊢
   by_cases h3:(Du (DI x b.flow) b).1≠0
   ·rw[if_pos h3] at h;exact absurd h h3
   ·rw [if_neg h3] at h ⊢
    refine⟨?_,Classical.not_not.1 h3,by simpa using h1,by omega⟩
    cases hf:Dr x.flows b.flow<;>rfl
def Fp (l:List HM):Prop:=l.Pairwise fun a b=>a.flow≠b.flow
structure XGood (x : XM) (T N : Nat) : Prop where
 apart:Fp x.flows
 good:∀h∈x.flows,Good h T N
 len:x.flows.length<=N
 alen:x.all.length<=N
 bin:∀b∈x.all,BIn b
 total:tot x.all<=T
theorem Pk : XGood XM.new 0 0:=⟨List.Pairwise.nil,fun h hh=>by simp[XM.new] at hh,by simp[XM.new],by simp[XM.new],fun b hb=>by simp[XM.new] at hb,by simp[XM.new,tot]⟩
theorem XGood.mono {x:XM}{T N T' N':Nat}(g:XGood x T N)(ht:T<=T')(hn:N<=N'):XGood x T' N':=⟨g.apart,fun h hh=>(g.good h hh).mono ht hn,Nat.le_trans g.len hn,Nat.le_trans g.alen hn,g.bin,Nat.le_trans g.total ht⟩
theorem GH {x:XM}{T N:Nat}(g:XGood x T N)(f:ByteArray):Good (DI x f) T N/\(DI x f).flow=f:=by
 unfold DI
 cases hf:Dr x.flows f with
 | none=>exact⟨(good_new f).mono (Nat.zero_le _) (Nat.zero_le _),rfl⟩
 | some i=>
  obtain⟨hi,h1,-⟩:=DL hf
  simp only[List.getD_eq_getElem?_getD,List.getElem?_eq_getElem hi,Option.getD_some]
  exact⟨g.good _ (List.getElem_mem hi),h1⟩
theorem M118 (h:p:=by
 refine List.ext_getElem (by simp) fun k k1 k2=> ?_
 rw[List.getElem_set]
 split
 ·rename_i e;subst e;simp
 ·rfl):p:=h
theorem Pl {x:XM}{T N:Nat}(g:XGood x T N)(b:BT)(hb:BIn b):XGood (DD x b).2 (T+b.es.length) (N+1):=by
 by_cases hc:(DD x b).1=0
 ·obtain ⟨ha, hm, -, -⟩ := GK hc
  obtain⟨hg,hfl⟩:=GH g b.flow
  have hg2:=good_add hg b hb.len hb.slim
  have hfl2:(Du (DI x b.flow) b).2.flow=b.flow:=by rw[Pw,hfl]
  have hrest:∀(l:List HM),(∀h∈l,Good h (T+b.es.length) (N+1))->Fp l->l.length<=N+1->(DD x b).2.flows=l->XGood (DD x b).2 (T+b.es.length) (N+1):=fun l h1 h2 h3 h4=>
   ⟨by rw [h4]; exact h2, by rw [h4]; exact h1, by rw [h4]; exact h3, by rw [ha, List.length_append]; have := g.alen; simp; omega, fun c hc => by
    rw[ha] at hc
    rcases List.mem_append.1 hc with q|q
    ·exact g.bin c q
    ·rw[List.mem_singleton.1 q];exact hb,by rw[ha,GA];have:=g.total;omega⟩
  have hflows : (DD x b).2.flows = match Dr x.flows b.flow with
   | some i=>x.flows.set i (Du (DI x b.flow) b).2
   | none=>x.flows++ [(Du (DI x b.flow) b).2]:=by
   unfold DD at hc ⊢
   split at hc
   ·exact absurd (show (2:Int)=0 from hc) (by decide)
   ·rename_i h1
    rw[if_neg h1]
    split at hc
    ·exact absurd (show (12:Int)=0 from hc) (by decide)
    ·rename_i h2
     rw[if_neg h2,if_neg (fun q=>q hm)]<;>cases Dr x.flows b.flow<;>rfl
  cases hf:Dr x.flows b.flow with
  | none=>
   rw[hf] at hflows
   have hne:=GI hf
   refine hrest _ (fun h hh=> ?_) ?_ (by rw[List.length_append];have:=g.len;simp;omega) hflows
   ·rcases List.mem_append.1 hh with q | q
    ·exact(g.good h q).mono (by omega) (by omega)
    ·rw[List.mem_singleton.1 q];exact hg2
   ·exact List.pairwise_append.2 ⟨g.apart,List.pairwise_singleton ..,fun a ha c hc=>by
     rw[List.mem_singleton.1 hc,hfl2];exact hne a ha⟩
  | some i=>
   rw[hf] at hflows
   obtain⟨hi,h1,-⟩:=DL hf
   refine hrest _ (fun h hh=> ?_) ?_ (by rw[List.length_set];have:=g.len;omega) hflows
   ·rcases List.mem_or_eq_of_mem_set hh with q | q
    ·exact(g.good h q).mono (by omega) (by omega)
    ·rw[q];exact hg2
   ·have hmap:(x.flows.set i (Du (DI x b.flow) b).2).map (·.flow)=x.flows.map (·.flow):=by
     rw[List.map_set,hfl2, <-h1]
     exact M118
    have hp:∀l:List HM,Fp l↔(l.map (·.flow)).Pairwise (· ≠ ·):=fun l=>by unfold Fp;rw[List.pairwise_map]
    rw[hp,hmap, <-hp]
    exact g.apart
 ·rw [Ow hc]
  exact g.mono (by omega) (by omega)
def Gw (l:List BT):XM:=l.foldl (fun x b=>(DD x b).2) XM.new
theorem Nh (l:List BT)(b:BT):Gw (l++ [b])=(DD (Gw l) b).2:=by unfold Gw;rw[List.foldl_append];rfl
theorem SB (l:List BT)(j:Nat)(h:j<l.length):Gw (l.take (j+1))=(DD (Gw (l.take j)) l[j]).2:=by rw[List.take_succ_eq_append_getElem h,Nh]
theorem Gx {bl : List BT} (h : LIn bl) : ∀ j, j <= bl.length -> XGood (Gw (bl.take j)) (tot (bl.take j)) j
 | 0,_=>by rw[List.take_zero];exact Pk
 | j+1,hj=>by
  have g:=Pl (Gx h j (by omega)) bl[j] (h.bin j hj)
  rw[SB bl j hj,Yd _ _ hj]
  exact g
variable {X X' Y Y' B B' : Nat -> Prop} {u v w w' w0 V V' : World} {fl : List HM}
structure HB where mk ::
 hb:Nat
 bt:Nat
 bm:Nat
 bk:Nat
 n:Nat
 A:Option Addr
 cap:Nat
abbrev HB.at_ (Y : Nat -> Prop) (w : World) (p : HB) (h : HM) : Prop := HAt Y w p.hb p.bt p.bm p.bk p.n p.A p.cap h
def OwnB (p:HB)(c:Nat):Prop:=c=p.hb\/rowOf p.A=some c
def HZs (B:Nat->Prop)(ps:List HB)(c:Nat):Prop:=B c\/∃(i:Nat) (p:HB),ps[i]?=some p/\OwnB p c
def HYs (B:Nat->Prop)(ps:List HB)(i:Nat)(c:Nat):Prop:=B c\/∃(j:Nat) (p:HB),ps[j]?=some p/\j≠i/\OwnB p c
variable {ps : List HB}
theorem yh_all {i:Nat}{p:HB}(hp:ps[i]?=some p)(c:Nat):YH (HYs B ps i) p.hb p.A c↔HZs B ps c:=by
 constructor
 ·rintro ((h | ⟨j, q, h1, -, h3⟩) | h)
  ·exact .inl h
  ·exact .inr ⟨j,q,h1,h3⟩
  ·exact .inr ⟨i,p,hp,h⟩
 ·rintro (h | ⟨j, q, h1, h3⟩)
  ·exact .inl (.inl h)
  ·by_cases e : j = i
   ·subst e
    rw[hp] at h1;obtain rfl:=Option.some.inj h1
    exact .inr h3
   ·exact .inl (.inr ⟨j,q,h1,e,h3⟩)
theorem yh_eq {i:Nat}{p:HB}(hp:ps[i]?=some p):YH (HYs B ps i) p.hb p.A=HZs B ps:=funext fun c=>propext (yh_all hp c)
theorem Chg.mono (h:Chg X w w')(hx:∀c,X c->X' c):Chg X' w w':=⟨h.os,h.tape,h.output,h.size,fun b hb k=>h.block b hb fun e=>k (hx b e)⟩
structure HsAt (B : Nat -> Prop) (w : World) (ps : List HB) (fl : List HM) : Prop where
 len:ps.length=fl.length
 bz:∀c,B c->c<w.heap.size
 hat:∀(i:Nat) (p:HB) (h:HM),ps[i]?=some p->fl[i]?=some h->p.at_ (HYs B ps i) w h
theorem HsAt.nil (hB:∀c,B c->c<w.heap.size):HsAt B w [] []:=⟨rfl,hB,fun i p h hp=>by simp at hp⟩
theorem HsAt.own (H:HsAt B w ps fl){i:Nat}{p:HB}(hp:ps[i]?=some p):∃h,fl[i]?=some h/\p.at_ (HYs B ps i) w h:=by
 have hi:=(List.getElem?_eq_some_iff.1 hp).1
 rw[H.len] at hi
 exact⟨fl[i],List.getElem?_eq_getElem hi,H.hat i p _ hp (List.getElem?_eq_getElem hi)⟩
theorem HsAt.own_lt (H:HsAt B w ps fl){i:Nat}{p:HB}(hp:ps[i]?=some p){c:Nat}(hc:OwnB p c):c<w.heap.size:=by
 obtain⟨h,-,k⟩:=H.own hp
 rcases hc with e|e
 ·rw[e];exact k.lt
 ·exact k.row.row_lt c e
theorem HsAt.zlt (H:HsAt B w ps fl){c:Nat}(hc:HZs B ps c):c<w.heap.size:=by
 rcases hc with e|⟨i,p,hp,e⟩
 ·exact H.bz c e
 ·exact H.own_lt hp e
theorem HsAt.ylt (H:HsAt B w ps fl){i c:Nat}(hc:HYs B ps i c):c<w.heap.size:=by
 rcases hc with e|⟨j,p,hp,-,e⟩
 ·exact H.bz c e
 ·exact H.own_lt hp e
theorem HsAt.sep (H:HsAt B w ps fl){i:Nat}{p:HB}(hp:ps[i]?=some p){c:Nat}(hc:OwnB p c):¬HYs B ps i c:=by
 obtain⟨h,-,k⟩:=H.own hp
 rcases hc with e|e
 ·rw[e];exact k.yb
 ·exact(k.yr c e).1
theorem HsAt.sepB (H:HsAt B w ps fl){i:Nat}{p:HB}(hp:ps[i]?=some p){c:Nat}(hc:OwnB p c):¬B c:=fun e=>H.sep hp hc (.inl e)
theorem HsAt.step (H:HsAt B w ps fl)(hc:Chg B w w')(h1:∀c,B' c->B c\/w.heap.size<=c)(h2:∀c,B' c->c<w'.heap.size):HsAt B' w' ps fl:=by
 refine⟨H.len,h2,fun i p h hp hh=> ?_⟩
 have k:=H.hat i p h hp hh
 have k1:p.at_ (fun c=>HYs B ps i c\/w.heap.size<=c) w h:=HAt.more k fun b hb q=>by
  rcases q with q|q
  ·exact q
  ·omega
 have k2:=HAt.chg k1 (hc.mono fun c q=> .inl (.inl q))
 refine HAt.more k2 fun b hb q=> ?_
 rcases q with q|⟨j,r,hr,hj,e⟩
 ·rcases h1 b q with q | q
  ·exact .inl (.inl q)
  ·exact .inr q
 ·exact .inl (.inr ⟨j,r,hr,hj,e⟩)
theorem HsAt.later (H:HsAt B w ps fl)(hb:Below w.heap.size w w'):HsAt B w' ps fl:=H.step (Chg.of_below hb) (fun c h=> .inl h) fun c h=>Nat.lt_of_lt_of_le (H.bz c h) hb.size
theorem HsAt.added (H:HsAt B w ps fl){i:Nat}{p p':HB}{h':HM}(hp:ps[i]?=some p)(hbb:p'.hb=p.hb)(hc:Chg (HZ p.hb p.A) w w')(hr:∀r,rowOf p'.A=some r->rowOf p.A=some r\/w.heap.size<=r)(hk:p'.at_ (HYs B ps i) w' h'):HsAt B w' (ps.set i p') (fl.set i h'):=by
 have hi:=(List.getElem?_eq_some_iff.1 hp).1
 refine⟨by simp[H.len],fun c h=>Nat.lt_of_lt_of_le (H.bz c h) hc.size,fun j q h hq hh=> ?_⟩
 by_cases e:i=j
 ·subst e
  rw[List.getElem?_set_self hi] at hq
  obtain rfl:=Option.some.inj hq
  rw[List.getElem?_set_self (by rw[<-H.len];exact hi)] at hh
  obtain rfl:=Option.some.inj hh
  refine HAt.more hk fun b hb q=> ?_
  rcases q with q|⟨j,r,hr,hj,e⟩
  ·exact .inl q
  ·rw [List.getElem?_set_ne (fun e => hj e.symm)] at hr
   exact .inr ⟨j,r,hr,hj,e⟩
 ·rw [List.getElem?_set_ne e] at hq hh
  have k:=H.hat j q h hq hh
  have k1:q.at_ (fun c=>HYs B ps j c\/w.heap.size<=c) w h:=HAt.more k fun b hb q=>by
   rcases q with q|q
   ·exact q
   ·omega
  have k2:=HAt.chg k1 (hc.mono fun c q=> .inl (.inr ⟨i,p,hp,e,q⟩))
  refine HAt.more k2 fun b hb q=> ?_
  rcases q with q|⟨m,r,hr',hm,e'⟩
  ·exact .inl (.inl q)
  ·by_cases em : i = m
   ·subst em
    rw[List.getElem?_set_self hi] at hr'
    obtain rfl:=Option.some.inj hr'
    rcases e' with e'|e'
    ·exact .inl (.inr ⟨i,p,hp,hm,.inl (e'.trans hbb)⟩)
    ·rcases hr b e' with q | q
     ·exact .inl (.inr ⟨i,p,hp,hm,.inr q⟩)
     ·exact .inr q
   ·rw [List.getElem?_set_ne em] at hr'
    exact .inl (.inr ⟨m,r,hr',hm,e'⟩)
theorem zs_set {i:Nat}{p p':HB}(hp:ps[i]?=some p)(hbb:p'.hb=p.hb){k:Nat}(hr:∀r,rowOf p'.A=some r->rowOf p.A=some r\/k<=r){c:Nat}(hc:HZs B (ps.set i p') c):HZs B ps c\/k<=c:=by
 have hi:=(List.getElem?_eq_some_iff.1 hp).1
 rcases hc with e|⟨j,q,hq,e⟩
 ·exact .inl (.inl e)
 ·by_cases ej : i = j
  ·subst ej
   rw[List.getElem?_set_self hi] at hq
   obtain rfl:=Option.some.inj hq
   rcases e with e|e
   ·exact .inl (.inr ⟨i,p,hp,.inl (e.trans hbb)⟩)
   ·rcases hr c e with q | q
    ·exact .inl (.inr ⟨i,p,hp,.inr q⟩)
    ·exact .inr q
  ·rw [List.getElem?_set_ne ej] at hq
   exact .inl (.inr ⟨j,q,hq,e⟩)
theorem HsAt.push (H:HsAt B w ps fl){p:HB}{h:HM}(hb:Below w.heap.size w w')(h1:w.heap.size<=p.hb)(h2:p.A=none)(hk:p.at_ (HZs B ps) w' h):HsAt B w' (ps++ [p]) (fl++ [h]):=by
 refine⟨by simp[H.len],fun c h=>Nat.lt_of_lt_of_le (H.bz c h) hb.size,fun j q g hq hg=> ?_⟩
 rw[List.getElem?_append] at hq hg
 by_cases hj:j<ps.length
 ·rw [if_pos hj] at hq
  rw[if_pos (by rw[<-H.len];exact hj)] at hg
  have k:=HAt.later (H.hat j q g hq hg) hb
  have k1:q.at_ (fun c=>HYs B ps j c\/w.heap.size<=c) w g:=HAt.more (H.hat j q g hq hg) fun b hb q=>by
   rcases q with q|q
   ·exact q
   ·omega
  refine HAt.more (HAt.later k1 hb) fun b hb q=> ?_
  rcases q with q|⟨m,r,hr',hm,e'⟩
  ·exact .inl (.inl q)
  ·rw [List.getElem?_append] at hr'
   split at hr'
   ·exact .inl (.inr ⟨m,r,hr',hm,e'⟩)
   ·rename_i hmm
    have:m-ps.length=0:=by
     have:=(List.getElem?_eq_some_iff.1 hr').1
     simp at this;omega
    rw[this] at hr'
    obtain rfl:p=r:=by simpa using hr'
    rcases e' with e'|e'
    ·rw[e'];exact .inr h1
    ·rw[h2] at e';cases e'
 ·rw [if_neg hj] at hq
  rw[if_neg (by rw[<-H.len];exact hj)] at hg
  have hj0:j-ps.length=0:=by
   have:=(List.getElem?_eq_some_iff.1 hq).1
   simp at this;omega
  rw[hj0] at hq
  rw[<-H.len,hj0] at hg
  obtain rfl:p=q:=by simpa using hq
  obtain rfl:h=g:=by simpa using hg
  refine HAt.more hk fun b hb q=> ?_
  rcases q with q|⟨m,r,hr',hm,e'⟩
  ·exact .inl q
  ·rw [List.getElem?_append] at hr'
   split at hr'
   ·exact .inr ⟨m,r,hr',e'⟩
   ·rename_i hmm
    have:=(List.getElem?_eq_some_iff.1 hr').1
    simp at this
    omega
theorem KU {p:HB}{k:Nat}(h1:k<=p.hb)(h2:p.A=none){c:Nat}(hc:HZs B (ps++ [p]) c):HZs B ps c\/k<=c:=by
 rcases hc with e|⟨j,q,hq,e⟩
 ·exact .inl (.inl e)
 ·rw [List.getElem?_append] at hq
  split at hq
  ·exact .inl (.inr ⟨j,q,hq,e⟩)
  ·have:j-ps.length=0:=by
    have:=(List.getElem?_eq_some_iff.1 hq).1
    simp at this;omega
   rw[this] at hq
   obtain rfl:p=q:=by simpa using hq
   rcases e with e|e
   ·rw[e];exact .inr h1
   ·rw[h2] at e;cases e
theorem Pj {k:Nat}(h:∀c,B' c->B c\/k<=c){c:Nat}(hc:HZs B' ps c):HZs B ps c\/k<=c:=by
 rcases hc with e|e
 ·exact(h c e).imp .inl id
 ·exact .inl (.inr e)
theorem NH {l:List HM}{i:Nat}{g:HM}(hi:i<l.length)(hg:g.flow=l[i].flow)(f:ByteArray):Dr (l.set i g) f=Dr l f:=by
 have hmap:(l.set i g).map (·.flow)=l.map (·.flow):=by
  rw[List.map_set,hg]
  exact M118
 have hp:∀l:List HM,Dr l f=(l.map (·.flow)).findIdx? (fun x=>decide (x=f)):=fun l=>by
  unfold Dr
  rw[List.findIdx?_map];rfl
 rw[hp,hmap, <-hp]
theorem Kf (x:XM)(f:ByteArray):(DI x f).flow=f:=by
 unfold DI
 cases hf:Dr x.flows f with
 | none=>rfl
 | some i=>
  obtain⟨hi,h1,-⟩:=DL hf
  simp only[List.getD_eq_getElem?_getD,List.getElem?_eq_getElem hi,Option.getD_some]
  exact h1
end Hi
end Go.Proofs.YtaahfiopdoinkaaGreat
