/- What an event does to a state: a timer is armed. -/
import Derived.Test.YtaahfiopdoinkaaGreatTwah
import Derived.Test.YtaahfiopdoinkaaGreatTwag
import Derived.Test.YtaahfiopdoinkaaGreatTwad
import Derived.StillTailTactics
set_option maxRecDepth 100000
set_option maxHeartbeats 8000000
variable {p : Prop}
set_option linter.unusedVariables false
set_option linter.unusedSimpArgs false
open Go.RowKit
namespace Go.Proofs.YtaahfiopdoinkaaGreat
namespace Hi
open Nm (Dk De)
open Vt (VT Rep Da DX)
open Ev (EV Dj Db Dn take_drop tk ap rd1 rd2 Dh)
open Cm (EvsIn)
variable {X X' Y : Nat -> Prop} {u v w w' V V' : World} {b n : Nat} {ts : List TK} {l : List (Nat × Nat)} {ks : List ByteArray}
theorem M133 (h:p:=by
 go_upto_region 31 with fail
 go_still_tail 6,(by kernel_rfl)
 go_wp2_with fail
 go_ret
 exact⟨(Chg.of_below HB2.out).trans (Chg.of_below (Da (Below.refl _ _))),by rw[HX.out];rfl⟩):p:=h
theorem M144 (h:p:=by
 rw[hW3];show (W2.setCell _ _).heap[w.heap.size]?=_;exact(RowKit.Below.heap_setCell _ _ _ _ (by have:=HGL.out;show w.heap.size≠g;omega)).trans (HE.out W2 HQ2.out)):p:=h
theorem apply8 (g bt bm bk:Nat)(s:ST)(h:SAt Y w g bt bm bk n s)(e:EV)(he:FW e)(hk:e.k=8)(vk vn:Int)(vf:Nat)(vs:ByteArray)(A:Option Addr)(m c:Nat)(now:Nat)(alone:Bool)(hn:n<17592186044416)(hx:s.next<1152921504606846976)(hf:OQ s) :
  Calls Tryz.prog 103 #[.pointer (some ⟨g,0,none⟩),.agg (Db e vk vn vf vs A m c),.int .u64 (now:Nat),.bool alone] w (Sp Y w g bt bm bk n (Dc now alone e s)):=by
 obtain⟨k,id,en,at',name,text,ev⟩:=e
 obtain rfl:k=8:=hk
 have hi:=he.f.i1
 dsimp only at hi
 have HF:=Lib.hid hf
 obtain⟨yi,yn,yk,yv,yf,ys,yA,ym,yc,yN,yb,ya,okb,hl⟩:=h.maps.tasks.any id hi
 have HL:Hid (∀W,W.heap[bt]?=w.heap[bt]?->(Instr.lookup 119 (.map (some bt)) (.int .u64 (id:Nat)) true).run Tryz.prog W= .ok (.tuple #[.agg #[.int .u64 (yi:Nat),.string yn,.int .i64 yk,.int .i64 yv,.float .f64 yf,.string ys,.slice yA ym yc,.int .i64 yN,.bool yb,.int .u64 (ya:Nat)],.bool okb]) W):=Lib.hid hl
 clear hl
 obtain⟨W1,hW1⟩:∃W1,W1=w.alloc (.cells (Db ⟨8,id,en,at',name,text,ev⟩ vk vn vf vs A m c) 61):=⟨_,rfl⟩
 have hb1:Below w.heap.size w W1:=by rw[hW1];exact(Below.refl _ _).alloc (Nat.le_refl _) _
 have hz1:W1.heap.size=w.heap.size+1:=by rw[hW1];simp
 have hx1:Ev.EBox W1 w.heap.size (Db ⟨8,id,en,at',name,text,ev⟩ vk vn vf vs A m c):=by rw[hW1];exact heap_alloc_new _ _
 have hgl:g<w.heap.size:=(Array.getElem?_eq_some_iff.1 h.blk).1
 have HE:Hid (∀W,Below W1.heap.size W1 W->Ev.EBox W w.heap.size (Db ⟨8,id,en,at',name,text,ev⟩ vk vn vf vs A m c)):=Lib.hid fun W hW=>(hW.block _ (by omega)).trans hx1
 have HST:Hid (∀W,Below W1.heap.size W1 W->SAt Y W g bt bm bk n s):=Lib.hid fun W hW=>h.later (hb1.trans (hW.mono hb1.size))
 have KS:Hid (∀W,Below W1.heap.size W1 W->(fun W=>W.cell? ⟨g,0,none⟩=some (.map (some bt))/\W.cell? ⟨w.heap.size,1,none⟩=some (.int .u64 (id:Nat))/\(Instr.lookup 119 (.map (some bt)) (.int .u64 (id:Nat)) true).run Tryz.prog W= .ok (.tuple #[.agg #[.int .u64 (yi:Nat),.string yn,.int .i64 yk,.int .i64 yv,.float .f64 yf,.string ys,.slice yA ym yc,.int .i64 yN,.bool yb,.int .u64 (ya:Nat)],.bool okb]) W) W):=Lib.hid fun W hW=>⟨(DE (HST.out W hW).blk).1,(Ev.EBox.cells (HE.out W hW)).2.1,HL.out W ((hb1.trans (hW.mono hb1.size)).block _ h.maps.tasks.lt)⟩
 obtain⟨W2,hW2⟩:∃W2,W2=(W1.alloc (.cells #[.int .u64 (yi:Nat),.string yn,.int .i64 yk,.int .i64 yv,.float .f64 yf,.string ys,.slice yA ym yc,.int .i64 yN,.bool yb,.int .u64 (ya:Nat)] 36)).drew:=⟨_,rfl⟩
 have hq2:Below W1.heap.size W1 W2:=by rw[hW2];exact Da ((Below.refl _ _).alloc (Nat.le_refl _) _)
 have hz2:W2.heap.size=w.heap.size+2:=by rw[hW2];simp[hz1]
 have ht2:W2.heap[W1.heap.size]?=some (.cells #[.int .u64 (yi:Nat),.string yn,.int .i64 yk,.int .i64 yv,.float .f64 yf,.string ys,.slice yA ym yc,.int .i64 yN,.bool yb,.int .u64 (ya:Nat)] 36 (0,0)):=by rw[hW2];exact heap_alloc_new _ _
 have HB2:=Lib.hid (hb1.trans (hq2.mono hb1.size));have HQ2:=Lib.hid hq2;have HZ1:=Lib.hid hz1;have HZ2:=Lib.hid hz2;have HT2:=Lib.hid ht2;have HGL:=Lib.hid hgl
 have H0:=Lib.hid h
 have HBW:=Lib.hid hb1
 have HSW:Hid (∀W,Below W1.heap.size W1 W->∀y,W1.heap.size<=y->Below W1.heap.size W1 W):=Lib.hid fun W hW _ _=>hW
 unfold Db at hW1
 replace hW1:=Lib.hid hW1;replace hW2:=Lib.hid hW2
 clear h hb1 hx1 hq2 ht2 hgl hz1 hz2 HL
 unfold Db
 go_enter Tryz.func103,Tryz.ntmps103
 go_upto_region 1 with fail
 rw[<-hW1.out]
 refine wp_region_noPanic ?_
 refine wp_region_held_drew (S:=(fun W=>W.cell? ⟨g,0,none⟩=some (.map (some bt))/\W.cell? ⟨w.heap.size,1,none⟩=some (.int .u64 (id:Nat))/\(Instr.lookup 119 (.map (some bt)) (.int .u64 (id:Nat)) true).run Tryz.prog W= .ok (.tuple #[.agg #[.int .u64 (yi:Nat),.string yn,.int .i64 yk,.int .i64 yv,.float .f64 yf,.string ys,.slice yA ym yc,.int .i64 yN,.bool yb,.int .u64 (ya:Nat)],.bool okb]) W)) (by kernel_rfl) ?_ (fun hHeld=> ?_)
 ·exact M60
 refine tk 0 rfl ?_
 refine tk 1 rfl ?_
 refine tk 2 rfl ?_
 refine tk 3 rfl ?_
 refine tk 4 rfl ?_
 refine tk 5 rfl ?_
 refine tk 6 rfl ?_
 refine tk 7 rfl ?_
 refine tk 8 rfl ?_
 refine tk 9 rfl ?_
 refine rd1 10 rfl fun K hK=> ?_
 go_simp
 refine hK.out _ _ (KS.out _ ((Da (Below.refl _ _)).alloc (Nat.le_refl _) _)) (fun hHeld2=> ?_)
 clear hK K hHeld
 try simp only[ap]
 refine rd1 11 rfl fun K hK=> ?_
 go_simp
 refine hK.out _ _ (KS.out _ (Da ((Below.refl _ _).alloc (Nat.le_refl _) _))) (fun hHeld3=> ?_)
 clear hK K hHeld2
 try simp only[ap]
 refine rd1 12 rfl fun K hK=> ?_
 go_simp
 refine hK.out _ _ (KS.out _ (Da ((Below.refl _ _).alloc (Nat.le_refl _) _))) (fun hHeld4=> ?_)
 clear hK K hHeld3
 try simp only[ap]
 refine wpAnyH_done (by kernel_rfl) ?_ _
 refine NoPanic.normal ?_
 clear hHeld4
 rw[<-hW2.out]
 have h:=HST.out W2 HQ2.out
 obtain⟨c0,c1,c2,c3,c4,f0,f1,f2,f3,f4⟩:=DE h.blk
 obtain⟨e0,e1,e2,e3,e4,e5,e6,e7,e8,e9,e10⟩:=Ev.EBox.cells (HE.out W2 HQ2.out)
 dsimp only at e0 e1 e2 e3 e4 e5
 obtain⟨t0,t1,t2,t3,t4,t5,t6,t7,t8,t9,tf⟩:=Fc HT2.out
 by_cases hid2:id=s.next
 rotate_left
 ·have kid : ((id : Int) != (s.next : Int)) = true := by simp; omega
  have HX:Hid (Dc now alone ⟨8,id,en,at',name,text,ev⟩ s=none):=Lib.hid (by simp[Dc,hid2])
  exact M133
 have kid:((id:Int) != (s.next:Int))=false:=by simp;omega
 have HID:=Lib.hid hid2
 obtain⟨h3',hc3⟩:=h.cell 3 (.int .u64 ((s.next:Int)+1)) {s with next:=s.next+1} rfl rfl rfl rfl
 have h3:=h3'.later (Da (Below.refl _ _))
 obtain⟨W3,hW3⟩:∃W3,W3=(W2.setCell ⟨g,3,none⟩ (.int .u64 ((s.next:Int)+1))).drew:=⟨_,rfl⟩
 replace hc3:=hc3.trans (Chg.of_below (X:=XS g bt bm bk) (Da (Below.refl _ _)))
 clear h3'
 rw[<-hW3] at h3 hc3
 have HC3:=Lib.hid ((Chg.of_below HB2.out).trans hc3)
 have hz3:W3.heap.size=W2.heap.size:=by rw[hW3];simp[World.setCell,World.drew]
 have hx3:Ev.EBox W3 w.heap.size (Db ⟨8,id,en,at',name,text,ev⟩ vk vn vf vs A m c):=by
  exact M144
 have HX3:=Lib.hid hx3;have H3:=Lib.hid h3;have HZ3:=Lib.hid hz3
 clear hid2 hc3 hx3 h3 hz3
 go_upto_region 31 with fail
 go_still_tail 6,(by kernel_rfl)
 go_upto_region 34 with fail
 rw[<-hW3]
 replace hW3:=Lib.hid hW3
 clear h c0 c1 c2 c3 c4 f0 f1 f2 f3 f4 e0 e1 e2 e3 e4 e5 e6 e7 e8 e9 e10 t0 t1 t2 t3 t4 t5 t6 t7 t8 t9 tf
 have h:=H3.out
 obtain⟨c0,c1,c2,c3,c4,f0,f1,f2,f3,f4⟩:=DE h.blk
 obtain⟨e0,e1,e2,e3,e4,e5,e6,e7,e8,e9,e10⟩:=Ev.EBox.cells HX3.out
 dsimp only at e0 e1 e2 e3 e4 e5
 obtain⟨wd,hput,hmd,hturn⟩:=(h.later (Da (Below.refl _ _))).maps.timers.put (by simp only[maxLen];omega) (id,at') hi (l':=s.timers++ [(id,at')]) (fun q=>Nr (Ns fun t ht=>by have:=HF.out.belowT t ht;have:=HID.out;show t.1≠id;omega) q)
 obtain⟨hsd,hcd⟩:=(h.later (Da (Below.refl _ _))).turnM hturn hmd (Nat.le_succ _)
 have hput':(Instr.mapUpdate 120 (.map (some bm)) (.int .u64 (id:Nat)) (.agg #[.int .u64 (id:Nat),.int .u64 (at':Nat)])).run Tryz.prog W3.drew= .ok () wd:=hput
 have hxd:Ev.EBox wd w.heap.size (Db ⟨8,id,en,at',name,text,ev⟩ vk vn vf vs A m c):=
  (hturn.grown.block w.heap.size (by show w.heap.size<W3.heap.size;have:=HZ3.out;have:=HZ2.out;omega) (fun e=>by injection e with e;have:=H0.out.maps.timers.lt;omega)).trans HX3.out
 obtain⟨-,-,-,x3,-,-,-,-,-,-,-⟩:=Ev.EBox.cells hxd
 dsimp only at x3
 have HSD:=Lib.hid hsd;have HCD:=Lib.hid ((HC3.out.trans (Chg.of_below (Da (Below.refl _ _)))).trans hcd)
 clear hsd hcd hmd hturn hput hxd
 go_upto_region 35 with fail
 go_still_tail 11,(by kernel_rfl)
 by_cases hle:now<=at'
 ·have kle : decide (now <= at') = true := decide_eq_true hle
  have HX:Hid (Dc now alone ⟨8,id,en,at',name,text,ev⟩ s=some {s with timers:=s.timers++ [(id,at')],next:=s.next+1}):=Lib.hid (by simp[Dc,HID.out,hle])
  clear hle
  go_wp2_with fail
  go_ret
  exact⟨HCD.out,by rw[HX.out];exact⟨rfl,HSD.out⟩⟩
 ·have kle : decide (now <= at') = false := decide_eq_false hle
  have HX:Hid (Dc now alone ⟨8,id,en,at',name,text,ev⟩ s=none):=Lib.hid (by simp[Dc,hle])
  clear hle
  exact M152
theorem M111 (h:p:=by
 refine⟨HCD.out,?_⟩
 rw[HX]
 cases alone with
 | true=>exact⟨rfl,HSD.out.mono (Nat.le_succ _)⟩
 | false=>rfl):p:=h
theorem M348 (h:p:=by
 rw[<-hW3] at h3 hc3
 obtain⟨w4,hclr,hm4,hturn4⟩:=h3.maps.tasks.clear 0
 obtain⟨h4,hc4⟩:=h3.turnT hturn4 (hm4.mono (Nat.zero_le n)) (Nat.le_refl _)
 obtain⟨w5,hclr5,hm5,hturn5⟩:=h4.maps.timers.clear 0
 obtain⟨h5,hc5⟩:=h4.turnM hturn5 (hm5.mono (Nat.zero_le n)) (Nat.le_refl _)
 have HSD:=Lib.hid h5;have HCD:=Lib.hid ((((Chg.of_below HB2.out).trans hc3).trans hc4).trans hc5)
 obtain⟨i0,i1,i2,i3,i4,-,-,-,-,-⟩:=DE h4.blk
 obtain⟨j0,j1,j2,j3,j4,-,-,-,-,-⟩:=DE h3.blk
 clear h3 hc3 hm4 hturn4 h4 hc4 hm5 hturn5 h5 hc5
 go_upto_region 39 with fail
 rw[<-hW3]
 replace hW3:=Lib.hid hW3
 clear h c0 c1 c2 c3 c4 f0 f1 f2 f3 f4 e0 e1 e2 e3 e4 e5 e6 e7 e8 e9 e10 t0 t1 t2 t3 t4 t5 t6 t7 t8 t9 tf
 go_wp2_with fail
 go_ret
 exact Y348):p:=h
theorem Q349.Y348 (h:p:=by
 have HX:Dc now alone ⟨9,id,en,at',name,text,ev⟩ s=if alone=true then some {s with closed:=9,tasks:=[],timers:=[]} else none:=by simp[Dc]
 exact M111):p:=h
theorem Q212.Y207 (h:p:=by
 obtain⟨h3,hc3⟩:=h.cell 4 (.int .i64 9) {s with closed:=9} rfl rfl rfl rfl
 obtain⟨W3,hW3⟩:∃W3,W3=W2.setCell ⟨g,4,none⟩ (.int .i64 9):=⟨_,rfl⟩
 open Q349 in exact M348):p:=h
theorem Q410.Y402 (h:p:=by
 have hx1:Ev.EBox W1 w.heap.size (Db ⟨9,id,en,at',name,text,ev⟩ vk vn vf vs A m c):=by rw[hW1];exact heap_alloc_new _ _
 have hgl:g<w.heap.size:=(Array.getElem?_eq_some_iff.1 h.blk).1
 have HE:Hid (∀W,Below W1.heap.size W1 W->Ev.EBox W w.heap.size (Db ⟨9,id,en,at',name,text,ev⟩ vk vn vf vs A m c)):=Lib.hid fun W hW=>(hW.block _ (by omega)).trans hx1
 open Q212 in exact KR):p:=h
theorem Q280.Y272 (h:p:=by
 obtain⟨W1,hW1⟩:∃W1,W1=w.alloc (.cells (Db ⟨9,id,en,at',name,text,ev⟩ vk vn vf vs A m c) 61):=⟨_,rfl⟩
 open Q410 in exact Vi):p:=h
theorem apply9 (g bt bm bk:Nat)(s:ST)(h:SAt Y w g bt bm bk n s)(e:EV)(he:FW e)(hk:e.k=9)(vk vn:Int)(vf:Nat)(vs:ByteArray)(A:Option Addr)(m c:Nat)(now:Nat)(alone:Bool) :
  Calls Tryz.prog 103 #[.pointer (some ⟨g,0,none⟩),.agg (Db e vk vn vf vs A m c),.int .u64 (now:Nat),.bool alone] w (Sp Y w g bt bm bk n (Dc now alone e s)):=by
 obtain⟨k,id,en,at',name,text,ev⟩:=e
 obtain rfl:k=9:=hk
 have hi:=he.f.i1
 dsimp only at hi
 obtain⟨yi,yn,yk,yv,yf,ys,yA,ym,yc,yN,yb,ya,okb,hl⟩:=h.maps.tasks.any id hi
 open Q280 in exact Vx
theorem Q350.Y348 (h:p:=by
 have HX:Dc now alone ⟨10,id,en,at',name,text,ev⟩ s=if alone=true then some {s with closed:=10,tasks:=[],timers:=[]} else none:=by simp[Dc]
 exact M111):p:=h
theorem Q213.Y207 (h:p:=by
 obtain⟨h3,hc3⟩:=h.cell 4 (.int .i64 10) {s with closed:=10} rfl rfl rfl rfl
 obtain⟨W3,hW3⟩:∃W3,W3=W2.setCell ⟨g,4,none⟩ (.int .i64 10):=⟨_,rfl⟩
 open Q350 in exact M348):p:=h
theorem Q411.Y402 (h:p:=by
 have hx1:Ev.EBox W1 w.heap.size (Db ⟨10,id,en,at',name,text,ev⟩ vk vn vf vs A m c):=by rw[hW1];exact heap_alloc_new _ _
 have hgl:g<w.heap.size:=(Array.getElem?_eq_some_iff.1 h.blk).1
 have HE:Hid (∀W,Below W1.heap.size W1 W->Ev.EBox W w.heap.size (Db ⟨10,id,en,at',name,text,ev⟩ vk vn vf vs A m c)):=Lib.hid fun W hW=>(hW.block _ (by omega)).trans hx1
 open Q213 in exact KR):p:=h
theorem Q281.Y272 (h:p:=by
 obtain⟨W1,hW1⟩:∃W1,W1=w.alloc (.cells (Db ⟨10,id,en,at',name,text,ev⟩ vk vn vf vs A m c) 61):=⟨_,rfl⟩
 open Q411 in exact Vi):p:=h
theorem apply10 (g bt bm bk:Nat)(s:ST)(h:SAt Y w g bt bm bk n s)(e:EV)(he:FW e)(hk:e.k=10)(vk vn:Int)(vf:Nat)(vs:ByteArray)(A:Option Addr)(m c:Nat)(now:Nat)(alone:Bool) :
  Calls Tryz.prog 103 #[.pointer (some ⟨g,0,none⟩),.agg (Db e vk vn vf vs A m c),.int .u64 (now:Nat),.bool alone] w (Sp Y w g bt bm bk n (Dc now alone e s)):=by
 obtain⟨k,id,en,at',name,text,ev⟩:=e
 obtain rfl:k=10:=hk
 have hi:=he.f.i1
 dsimp only at hi
 obtain⟨yi,yn,yk,yv,yf,ys,yA,ym,yc,yN,yb,ya,okb,hl⟩:=h.maps.tasks.any id hi
 open Q281 in exact Vx
theorem Q351.Y348 (h:p:=by
 have HX:Dc now alone ⟨11,id,en,at',name,text,ev⟩ s=if alone=true then some {s with closed:=11,tasks:=[],timers:=[]} else none:=by simp[Dc]
 exact M111):p:=h
theorem Q214.Y207 (h:p:=by
 obtain⟨h3,hc3⟩:=h.cell 4 (.int .i64 11) {s with closed:=11} rfl rfl rfl rfl
 obtain⟨W3,hW3⟩:∃W3,W3=W2.setCell ⟨g,4,none⟩ (.int .i64 11):=⟨_,rfl⟩
 open Q351 in exact M348):p:=h
theorem Q412.Y402 (h:p:=by
 have hx1:Ev.EBox W1 w.heap.size (Db ⟨11,id,en,at',name,text,ev⟩ vk vn vf vs A m c):=by rw[hW1];exact heap_alloc_new _ _
 have hgl:g<w.heap.size:=(Array.getElem?_eq_some_iff.1 h.blk).1
 have HE:Hid (∀W,Below W1.heap.size W1 W->Ev.EBox W w.heap.size (Db ⟨11,id,en,at',name,text,ev⟩ vk vn vf vs A m c)):=Lib.hid fun W hW=>(hW.block _ (by omega)).trans hx1
 open Q214 in exact KR):p:=h
theorem Q282.Y272 (h:p:=by
 obtain⟨W1,hW1⟩:∃W1,W1=w.alloc (.cells (Db ⟨11,id,en,at',name,text,ev⟩ vk vn vf vs A m c) 61):=⟨_,rfl⟩
 open Q412 in exact Vi):p:=h
theorem apply11 (g bt bm bk:Nat)(s:ST)(h:SAt Y w g bt bm bk n s)(e:EV)(he:FW e)(hk:e.k=11)(vk vn:Int)(vf:Nat)(vs:ByteArray)(A:Option Addr)(m c:Nat)(now:Nat)(alone:Bool) :
  Calls Tryz.prog 103 #[.pointer (some ⟨g,0,none⟩),.agg (Db e vk vn vf vs A m c),.int .u64 (now:Nat),.bool alone] w (Sp Y w g bt bm bk n (Dc now alone e s)):=by
 obtain⟨k,id,en,at',name,text,ev⟩:=e
 obtain rfl:k=11:=hk
 have hi:=he.f.i1
 dsimp only at hi
 obtain⟨yi,yn,yk,yv,yf,ys,yA,ym,yc,yN,yb,ya,okb,hl⟩:=h.maps.tasks.any id hi
 open Q282 in exact Vx
theorem Q688.Y687 (h:p:=by
 obtain⟨t0,t1,t2,t3,t4,t5,t6,t7,t8,t9,tf⟩:=Fc HT3.out
 go_upto_region 15 with fail
 exact M183):p:=h
theorem M6 (h:p:=by
 obtain⟨W3,hW3⟩:∃W3,W3=(((W2.setCell ⟨W1.heap.size,7,none⟩ (.int .i64 en)).setCell ⟨W1.heap.size,9,none⟩ (.int .u64 (at':Nat))).setCell ⟨W1.heap.size,8,none⟩ (.bool true)).drew:=⟨_,rfl⟩
 have hq3:Below W1.heap.size W1 W3:=by rw[hW3];exact Da ((((HQ2.out).setCell (Nat.le_refl _) _).setCell (Nat.le_refl _) _).setCell (Nat.le_refl _) _)
 have ht3:W3.heap[W1.heap.size]?=some (.cells #[.int .u64 (yi:Nat),.string yn,.int .i64 yk,.int .i64 yv,.float .f64 yf,.string ys,.slice yA ym yc,.int .i64 en,.bool true,.int .u64 (at':Nat)] 36 (0,0)):=by
  have:=HT2.out
  rw[hW3];show (((W2.setCell ⟨W1.heap.size,7,none⟩ (.int .i64 en)).setCell ⟨W1.heap.size,9,none⟩ (.int .u64 (at':Nat))).setCell ⟨W1.heap.size,8,none⟩ (.bool true)).heap[W1.heap.size]?=_;simp[World.setCell,Array.getElem?_modify,this]
 have h3:=HST.out W3 hq3
 have hdw:Below W1.heap.size W1 W3.drew:=Da hq3
 obtain⟨wd,hput,-⟩:=(HST.out W3.drew hdw).maps.tasks.raw (by simp only[maxLen];omega) id hi (.agg #[.int .u64 (yi:Nat),.string yn,.int .i64 yk,.int .i64 yv,.float .f64 yf,.string ys,.slice yA ym yc,.int .i64 en,.bool true,.int .u64 (at':Nat)])
 have HH3:=Lib.hid h3;have HT3:=Lib.hid ht3;have HQ3:=Lib.hid hq3
 have HFIN:Hid (Below w.heap.size w W3.drew):=Lib.hid (HBW.out.trans (hdw.mono HBW.out.size))
 replace hW3:=Lib.hid hW3
 clear h3 ht3 hq3 hdw
 go_upto_region 14 with fail
 refine wp_region_noPanic ?_
 refine wp_region_held_drew (S:=(fun W=>W.cell? ⟨w.heap.size,2,none⟩=some (.int .i64 en)/\W.cell? ⟨w.heap.size,3,none⟩=some (.int .u64 (at':Nat)))) (by kernel_rfl) ?_ (fun hHeld=> ?_)
 ·exact KS14.out _ (Da (HQ2.out))
 refine tk 0 rfl ?_
 refine tk 1 rfl ?_
 refine tk 2 rfl ?_
 refine tk 3 rfl ?_
 refine tk 4 rfl ?_
 refine rd1 5 rfl fun K hK=> ?_
 go_simp
 refine hK.out _ _ (KS14.out _ (Da ((HQ2.out).setCell (Nat.le_refl _) _))) (fun hHeld0=> ?_)
 clear hK K hHeld
 try simp only[ap]
 refine tk 6 rfl ?_
 refine rd1 7 rfl fun K hK=> ?_
 go_simp
 refine hK.out _ _ (KS14.out _ (Da (((HQ2.out).setCell (Nat.le_refl _) _).setCell (Nat.le_refl _) _))) (fun hHeld1=> ?_)
 clear hK K hHeld0
 try simp only[ap]
 refine tk 8 rfl ?_
 refine rd1 9 rfl fun K hK=> ?_
 go_simp
 refine hK.out _ _ (KS14.out _ (Da ((((HQ2.out).setCell (Nat.le_refl _) _).setCell (Nat.le_refl _) _).setCell (Nat.le_refl _) _))) (fun hHeld2=> ?_)
 clear hK K hHeld1
 try simp only[ap]
 refine wpAnyH_done (by kernel_rfl) ?_ _
 refine NoPanic.normal ?_
 clear hHeld2
 open Q688 in exact M687):p:=h
theorem Q211.Y207 (h:p:=by
 have KS14:Hid (∀W,Below W1.heap.size W1 W->(fun W=>W.cell? ⟨w.heap.size,2,none⟩=some (.int .i64 en)/\W.cell? ⟨w.heap.size,3,none⟩=some (.int .u64 (at':Nat))) W):=Lib.hid fun W hW=>by
  obtain⟨-,-,e2,e3,-⟩:=Ev.EBox.cells (HE.out W hW)
  exact⟨e2,e3⟩
 have hwr:IntKind.i64.wrap (yN+1)=yN+1:=IntWalk.i64_in _ (by omega)
 cases okb with
 | false=>
  exact M6
 | true=>
  cases yb with
  | true=>
   exact M6
  | false=>
   by_cases q3:yN+1=en
   ·have k3 : decide (yN + 1 = en) = true := decide_eq_true q3
    by_cases q4:ya<=now
    ·have k4 : decide (ya <= now) = true := decide_eq_true q4
     by_cases q5:now<=at'
     ·have k5 : decide (now <= at') = true := decide_eq_true q5
      cases alone with
      | true=>
       exact M6
      | false=>
       exact M6
     ·have k5 : decide (now <= at') = false := decide_eq_false q5
      exact M6
    ·have k4 : decide (ya <= now) = false := decide_eq_false q4
     exact M6
   ·have k3 : decide (yN + 1 = en) = false := decide_eq_false q3
    exact M6):p:=h
theorem Q413.Y402 (h:p:=by
 have hx1:Ev.EBox W1 w.heap.size (Db ⟨2,id,en,at',name,text,ev⟩ vk vn vf vs A m c):=by rw[hW1];exact heap_alloc_new _ _
 have hgl:g<w.heap.size:=(Array.getElem?_eq_some_iff.1 h.blk).1
 have HE:Hid (∀W,Below W1.heap.size W1 W->Ev.EBox W w.heap.size (Db ⟨2,id,en,at',name,text,ev⟩ vk vn vf vs A m c)):=Lib.hid fun W hW=>(hW.block _ (by omega)).trans hx1
 open Q211 in exact KR):p:=h
theorem Q277.Y272 (h:p:=by
 obtain⟨W1,hW1⟩:∃W1,W1=w.alloc (.cells (Db ⟨2,id,en,at',name,text,ev⟩ vk vn vf vs A m c) 61):=⟨_,rfl⟩
 open Q413 in exact Vi):p:=h
theorem KF (g bt bm bk:Nat)(s:ST)(h:SAt Y w g bt bm bk n s)(hn:n<17592186044416)(e:EV)(he:FW e)(hk:e.k=2)(vk vn:Int)(vf:Nat)(vs:ByteArray)(A:Option Addr)(m c:Nat)(now:Nat)(alone:Bool)(yi:Nat)(yn:ByteArray)(yk yv:Int)(yf:Nat)(ys:ByteArray)(yA:Option Addr)(ym yc:Nat)(yN:Int)(yb:Bool)(ya:Nat)(okb:Bool)(hN0:0<=yN)(hN1:yN<=2147483647)(hl:∀W:World,W.heap[bt]?=w.heap[bt]?->(Instr.lookup 119 (.map (some bt)) (.int .u64 (e.id:Nat)) true).run Tryz.prog W= .ok (.tuple #[.agg #[.int .u64 (yi:Nat),.string yn,.int .i64 yk,.int .i64 yv,.float .f64 yf,.string ys,.slice yA ym yc,.int .i64 yN,.bool yb,.int .u64 (ya:Nat)],.bool okb]) W) :
  Calls Tryz.prog 103 #[.pointer (some ⟨g,0,none⟩),.agg (Db e vk vn vf vs A m c),.int .u64 (now:Nat),.bool alone] w fun r w'=>r= .returned (.bool (okb&& !yb&&decide (yN+1=e.n)&&decide (ya<=now)&&decide (now<=e.at')&&alone))/\∃W3,Below w.heap.size w W3/\(Instr.mapUpdate 119 (.map (some bt)) (.int .u64 (e.id:Nat)) (.agg #[.int .u64 (yi:Nat),.string yn,.int .i64 yk,.int .i64 yv,.float .f64 yf,.string ys,.slice yA ym yc,.int .i64 e.n,.bool true,.int .u64 (e.at':Nat)])).run Tryz.prog W3= .ok () w':=by
 obtain⟨k,id,en,at',name,text,ev⟩:=e
 obtain rfl:k=2:=hk
 have hi:=he.f.i1
 dsimp only at hi
 have hn1:=he.n0;have hn2:=he.n1
 dsimp only at hn1 hn2 hl ⊢
 open Q277 in exact Vx
theorem apply2 (g bt bm bk:Nat)(s:ST)(h:SAt Y w g bt bm bk n s)(e:EV)(he:FW e)(hk:e.k=2)(vk vn:Int)(vf:Nat)(vs:ByteArray)(A:Option Addr)(m c:Nat)(now:Nat)(alone:Bool)(hn:n<17592186044416) :
  Calls Tryz.prog 103 #[.pointer (some ⟨g,0,none⟩),.agg (Db e vk vn vf vs A m c),.int .u64 (now:Nat),.bool alone] w (Sp Y w g bt bm bk n (Dc now alone e s)):=by
 have hi:=he.f.i1
 obtain⟨yi,yn,yk,yv,yf,ys,yA,ym,yc,yN,yb,ya,okb,hl,hyN,hdec⟩:=h.maps.tasks.any2 e.id hi
 refine(KF g bt bm bk s h hn e he hk vk vn vf vs A m c now alone yi yn yk yv yf ys yA ym yc yN yb ya okb hyN.1 hyN.2 hl).mono ?_
 rintro r w' ⟨rfl,W3,hb,hr⟩
 refine⟨XZ h hn hb hi hr,?_⟩
 rcases hdec with ⟨rfl,hno⟩|⟨rfl,t,h1,h0,h2,h3,h4,hrep⟩
 ·have hX : Dc now alone e s = none := by simp [Dc, hk, hno]
  rw[hX];rfl
 ·by_cases hc : t.fl = false /\ t.n + 1 = e.n /\ t.at' <= now /\ now <= e.at' /\ alone = true
  ·have hX : Dc now alone e s = some { s with tasks := FN s.tasks { t with n := e.n, at' := e.at', fl := true } } := by simp [Dc, hk, h1, hc]
   rw[hX]
   obtain⟨c1,c2,c3,c4,c5⟩:=hc
   refine⟨Nm.De (by simp[<-h2, <-h3, <-h4,c1,c2,c3,c4,c5]),?_⟩
   exact(XW (t:={t with n:=e.n,at':=e.at',fl:=true}) h hn hb (h0 ▸ h1) (hrep e.n true e.at' he.n0 he.n1 he.f.a1) (by rw[show ({t with n:=e.n,at':=e.at',fl:=true}:TK).id=e.id from h0];exact hr)).2
  ·have hX : Dc now alone e s = none := by simp only [Dc, hk, h1, if_true, if_neg hc]
   rw[hX]
   refine Nm.De (Bool.eq_false_iff.2 fun q=>hc ?_)
   simp only[Bool.and_eq_true,Bool.not_eq_true',decide_eq_true_eq,Bool.true_and] at q
   obtain⟨⟨⟨⟨q1,q2⟩,q3⟩,q4⟩,q5⟩:=q
   exact⟨h3.trans q1,by rw[h2];exact q2,by rw[h4];exact q3,q4,q5⟩
theorem apply7 (g bt bm bk:Nat)(s:ST)(h:SAt Y w g bt bm bk n s)(e:EV)(he:FW e)(hk:e.k=7)(vk vn:Int)(vf:Nat)(vs:ByteArray)(A:Option Addr)(m c:Nat)(now:Nat)(alone:Bool)(hn:n<17592186044416)(hx:s.next<1152921504606846976)(hf:OQ s)(hY:∀b,Y b->b<w.heap.size)(lo hi':Nat)(hv:Rep w lo hi' e.v (Dn vk vn vf vs A m c))(hhi:hi'<=w.heap.size)(hlow:hi'<=g/\hi'<=bt/\hi'<=bm/\hi'<=bk)(hnow:now<18446744073709551616) :
  Calls Tryz.prog 103 #[.pointer (some ⟨g,0,none⟩),.agg (Db e vk vn vf vs A m c),.int .u64 (now:Nat),.bool alone] w (Sp Y w g bt bm bk n (Dc now alone e s)):=by
 obtain⟨k,id,en,at',name,text,ev⟩:=e
 obtain rfl:k=7:=hk
 have hi:=he.f.i1
 dsimp only at hi
 have hsl:=he.slim
 have hs1:=he.f.s1
 dsimp only at hsl hs1
 have HF:=Lib.hid hf;have HYY:=Lib.hid hY;have HV0:=Lib.hid hv;have HLW:=Lib.hid hlow
 clear hY hv hlow
 obtain⟨yi,yn,yk,yv,yf,ys,yA,ym,yc,yN,yb,ya,okb,hl⟩:=h.maps.tasks.any id hi
 have HL:Hid (∀W,W.heap[bt]?=w.heap[bt]?->(Instr.lookup 119 (.map (some bt)) (.int .u64 (id:Nat)) true).run Tryz.prog W= .ok (.tuple #[.agg #[.int .u64 (yi:Nat),.string yn,.int .i64 yk,.int .i64 yv,.float .f64 yf,.string ys,.slice yA ym yc,.int .i64 yN,.bool yb,.int .u64 (ya:Nat)],.bool okb]) W):=Lib.hid hl
 clear hl
 obtain⟨W1,hW1⟩:∃W1,W1=w.alloc (.cells (Db ⟨7,id,en,at',name,text,ev⟩ vk vn vf vs A m c) 61):=⟨_,rfl⟩
 have hb1:Below w.heap.size w W1:=by rw[hW1];exact(Below.refl _ _).alloc (Nat.le_refl _) _
 have hz1:W1.heap.size=w.heap.size+1:=by rw[hW1];simp
 have hx1:Ev.EBox W1 w.heap.size (Db ⟨7,id,en,at',name,text,ev⟩ vk vn vf vs A m c):=by rw[hW1];exact heap_alloc_new _ _
 have hgl:g<w.heap.size:=(Array.getElem?_eq_some_iff.1 h.blk).1
 have HE:Hid (∀W,Below W1.heap.size W1 W->Ev.EBox W w.heap.size (Db ⟨7,id,en,at',name,text,ev⟩ vk vn vf vs A m c)):=Lib.hid fun W hW=>(hW.block _ (by omega)).trans hx1
 have HST:Hid (∀W,Below W1.heap.size W1 W->SAt Y W g bt bm bk n s):=Lib.hid fun W hW=>h.later (hb1.trans (hW.mono hb1.size))
 have KS:Hid (∀W,Below W1.heap.size W1 W->(fun W=>W.cell? ⟨g,0,none⟩=some (.map (some bt))/\W.cell? ⟨w.heap.size,1,none⟩=some (.int .u64 (id:Nat))/\(Instr.lookup 119 (.map (some bt)) (.int .u64 (id:Nat)) true).run Tryz.prog W= .ok (.tuple #[.agg #[.int .u64 (yi:Nat),.string yn,.int .i64 yk,.int .i64 yv,.float .f64 yf,.string ys,.slice yA ym yc,.int .i64 yN,.bool yb,.int .u64 (ya:Nat)],.bool okb]) W) W):=Lib.hid fun W hW=>⟨(DE (HST.out W hW).blk).1,(Ev.EBox.cells (HE.out W hW)).2.1,HL.out W ((hb1.trans (hW.mono hb1.size)).block _ h.maps.tasks.lt)⟩
 obtain⟨W2,hW2⟩:∃W2,W2=(W1.alloc (.cells #[.int .u64 (yi:Nat),.string yn,.int .i64 yk,.int .i64 yv,.float .f64 yf,.string ys,.slice yA ym yc,.int .i64 yN,.bool yb,.int .u64 (ya:Nat)] 36)).drew:=⟨_,rfl⟩
 have hq2:Below W1.heap.size W1 W2:=by rw[hW2];exact Da ((Below.refl _ _).alloc (Nat.le_refl _) _)
 have hz2:W2.heap.size=w.heap.size+2:=by rw[hW2];simp[hz1]
 have ht2:W2.heap[W1.heap.size]?=some (.cells #[.int .u64 (yi:Nat),.string yn,.int .i64 yk,.int .i64 yv,.float .f64 yf,.string ys,.slice yA ym yc,.int .i64 yN,.bool yb,.int .u64 (ya:Nat)] 36 (0,0)):=by rw[hW2];exact heap_alloc_new _ _
 have HB2:=Lib.hid (hb1.trans (hq2.mono hb1.size));have HQ2:=Lib.hid hq2;have HZ1:=Lib.hid hz1;have HZ2:=Lib.hid hz2;have HT2:=Lib.hid ht2;have HGL:=Lib.hid hgl
 have H0:=Lib.hid h
 have HBW:=Lib.hid hb1
 have HSW:Hid (∀W,Below W1.heap.size W1 W->∀y,W1.heap.size<=y->Below W1.heap.size W1 W):=Lib.hid fun W hW _ _=>hW
 unfold Db at hW1
 replace hW1:=Lib.hid hW1;replace hW2:=Lib.hid hW2
 clear h hb1 hx1 hq2 ht2 hgl hz1 hz2 HL
 unfold Db
 go_enter Tryz.func103,Tryz.ntmps103
 go_upto_region 1 with fail
 rw[<-hW1.out]
 refine wp_region_noPanic ?_
 refine wp_region_held_drew (S:=(fun W=>W.cell? ⟨g,0,none⟩=some (.map (some bt))/\W.cell? ⟨w.heap.size,1,none⟩=some (.int .u64 (id:Nat))/\(Instr.lookup 119 (.map (some bt)) (.int .u64 (id:Nat)) true).run Tryz.prog W= .ok (.tuple #[.agg #[.int .u64 (yi:Nat),.string yn,.int .i64 yk,.int .i64 yv,.float .f64 yf,.string ys,.slice yA ym yc,.int .i64 yN,.bool yb,.int .u64 (ya:Nat)],.bool okb]) W)) (by kernel_rfl) ?_ (fun hHeld=> ?_)
 ·exact M60
 refine tk 0 rfl ?_
 refine tk 1 rfl ?_
 refine tk 2 rfl ?_
 refine tk 3 rfl ?_
 refine tk 4 rfl ?_
 refine tk 5 rfl ?_
 refine tk 6 rfl ?_
 refine tk 7 rfl ?_
 refine tk 8 rfl ?_
 refine tk 9 rfl ?_
 refine rd1 10 rfl fun K hK=> ?_
 go_simp
 refine hK.out _ _ (KS.out _ ((Da (Below.refl _ _)).alloc (Nat.le_refl _) _)) (fun hHeld2=> ?_)
 clear hK K hHeld
 try simp only[ap]
 refine rd1 11 rfl fun K hK=> ?_
 go_simp
 refine hK.out _ _ (KS.out _ (Da ((Below.refl _ _).alloc (Nat.le_refl _) _))) (fun hHeld3=> ?_)
 clear hK K hHeld2
 try simp only[ap]
 refine rd1 12 rfl fun K hK=> ?_
 go_simp
 refine hK.out _ _ (KS.out _ (Da ((Below.refl _ _).alloc (Nat.le_refl _) _))) (fun hHeld4=> ?_)
 clear hK K hHeld3
 try simp only[ap]
 refine wpAnyH_done (by kernel_rfl) ?_ _
 refine NoPanic.normal ?_
 clear hHeld4
 rw[<-hW2.out]
 have h:=HST.out W2 HQ2.out
 obtain⟨c0,c1,c2,c3,c4,f0,f1,f2,f3,f4⟩:=DE h.blk
 obtain⟨e0,e1,e2,e3,e4,e5,e6,e7,e8,e9,e10⟩:=Ev.EBox.cells (HE.out W2 HQ2.out)
 dsimp only at e0 e1 e2 e3 e4 e5
 obtain⟨t0,t1,t2,t3,t4,t5,t6,t7,t8,t9,tf⟩:=Fc HT2.out
 by_cases hid2:id=s.next
 rotate_left
 ·have kid : ((id : Int) != (s.next : Int)) = true := by simp; omega
  have HX:Hid (Dc now alone ⟨7,id,en,at',name,text,ev⟩ s=none):=Lib.hid (by simp[Dc,hid2])
  exact M133
 have kid:((id:Int) != (s.next:Int))=false:=by simp;omega
 have HID:=Lib.hid hid2
 obtain⟨h3',hc3⟩:=h.cell 3 (.int .u64 ((s.next:Int)+1)) {s with next:=s.next+1} rfl rfl rfl rfl
 have h3:=h3'.later (Da (Below.refl _ _))
 obtain⟨W3,hW3⟩:∃W3,W3=(W2.setCell ⟨g,3,none⟩ (.int .u64 ((s.next:Int)+1))).drew:=⟨_,rfl⟩
 replace hc3:=hc3.trans (Chg.of_below (X:=XS g bt bm bk) (Da (Below.refl _ _)))
 clear h3'
 rw[<-hW3] at h3 hc3
 have HC3:=Lib.hid ((Chg.of_below HB2.out).trans hc3)
 have hz3:W3.heap.size=W2.heap.size:=by rw[hW3];simp[World.setCell,World.drew]
 have hx3:Ev.EBox W3 w.heap.size (Db ⟨7,id,en,at',name,text,ev⟩ vk vn vf vs A m c):=by
  exact M144
 have HX3:=Lib.hid hx3;have H3:=Lib.hid h3;have HZ3:=Lib.hid hz3
 clear hid2 hc3 hx3 h3 hz3
 go_upto_region 31 with fail
 go_still_tail 6,(by kernel_rfl)
 go_upto_region 34 with fail
 rw[<-hW3]
 replace hW3:=Lib.hid hW3
 clear h c0 c1 c2 c3 c4 f0 f1 f2 f3 f4 e0 e1 e2 e3 e4 e5 e6 e7 e8 e9 e10 t0 t1 t2 t3 t4 t5 t6 t7 t8 t9 tf
 have h:=H3.out
 obtain⟨c0,c1,c2,c3,c4,f0,f1,f2,f3,f4⟩:=DE h.blk
 obtain⟨e0,e1,e2,e3,e4,e5,e6,e7,e8,e9,e10⟩:=Ev.EBox.cells HX3.out
 dsimp only at e0 e1 e2 e3 e4 e5
 have KS5:Hid (∀W,Below W3.heap.size W3 W->(fun W=>W.cell? ⟨g,0,none⟩=some (.map (some bt))/\W.cell? ⟨w.heap.size,1,none⟩=some (.int .u64 (id:Nat))/\W.cell? ⟨w.heap.size,4,none⟩=some (.string name)/\W.cell? ⟨w.heap.size,6,none⟩=some (.int .i64 vk)/\W.cell? ⟨w.heap.size,7,none⟩=some (.int .i64 vn)/\W.cell? ⟨w.heap.size,8,none⟩=some (.float .f64 vf)/\W.cell? ⟨w.heap.size,9,none⟩=some (.string vs)/\W.cell? ⟨w.heap.size,10,none⟩=some (.slice A m c)) W):=Lib.hid fun W hW=>by
  obtain⟨q0,-⟩:=DE (H3.out.later hW).blk
  obtain⟨-,z1,-,-,z4,-,z6,z7,z8,z9,z10⟩:=Ev.EBox.cells (HX3.out.later hW (by have:=HZ3.out;have:=HZ2.out;omega))
  exact⟨q0,z1,z4,z6,z7,z8,z9,z10⟩
 have hvd:Rep W3.drew lo hi' ev (Dn vk vn vf vs A m c):=Rep.keep HV0.out fun b o h1 h2=>by
  obtain⟨l1,l2,l3,l4⟩:=HLW.out
  exact World.cell?_of_block (a:=⟨b,o,none⟩) (HC3.out.block b (by omega) (fun hx=>by rcases hx with rfl|rfl|rfl|rfl<;>omega))
 have HCL:=Lib.hid (Vt.SH ev W3.drew lo hi' _ hvd (by have:=HC3.out.size;show hi'<=W3.heap.size;omega) hsl)
 clear hvd
 unfold Dn at HCL
 go_upto_region 37 with fail
 refine wp_region_noPanic ?_
 refine wp_region_held_drew (S:=(fun W=>W.cell? ⟨g,0,none⟩=some (.map (some bt))/\W.cell? ⟨w.heap.size,1,none⟩=some (.int .u64 (id:Nat))/\W.cell? ⟨w.heap.size,4,none⟩=some (.string name)/\W.cell? ⟨w.heap.size,6,none⟩=some (.int .i64 vk)/\W.cell? ⟨w.heap.size,7,none⟩=some (.int .i64 vn)/\W.cell? ⟨w.heap.size,8,none⟩=some (.float .f64 vf)/\W.cell? ⟨w.heap.size,9,none⟩=some (.string vs)/\W.cell? ⟨w.heap.size,10,none⟩=some (.slice A m c))) (by kernel_rfl) ?_ (fun hHeld=> ?_)
 ·exact KS5.out _ (Da (Below.refl _ _))
 refine tk 0 rfl ?_
 refine tk 1 rfl ?_
 refine tk 2 rfl ?_
 refine tk 3 rfl ?_
 refine tk 4 rfl ?_
 refine tk 5 rfl ?_
 refine tk 6 rfl ?_
 refine tk 7 rfl ?_
 refine tk 8 rfl ?_
 refine tk 9 rfl ?_
 refine tk 10 rfl ?_
 refine tk 11 rfl ?_
 refine tk 13 rfl ?_
 refine rd1 12 rfl fun K hK=> ?_
 go_simp
 (with_reducible refine HCL.out.mono ?_)
 rintro e5 w5 ⟨kq,nq,fq,sq,lq,A2,cap2,ht,rfl,hr5,hb9,-⟩
 have hq5:Below W3.heap.size W3 w5:=(Da (Below.refl _ _)).trans hb9
 have hz5:=hq5.size
 have hnone:Fb s.tasks id=none:=by
  unfold Fb
  rw[List.find?_eq_none]
  intro t ht2
  have:=HF.out.below t ht2
  have:=HID.out
  simp;omega
 have htr:TRep (Ds (XY Y g bt bm bk) w5) ⟨id,name,ev,0,false,now⟩ (.agg #[.int .u64 (id:Nat),.string name,.int .i64 kq,.int .i64 nq,.float .f64 fq,.string sq,.slice A2 lq.length cap2,.int .i64 0,.bool false,.int .u64 (now:Nat)]):=
  ⟨W3.heap.size, w5.heap.size, kq, nq, fq, sq, A2, lq.length, cap2, rfl, ⟨hi, Int.le_refl 0, (by decide : (0 : Int) <= 2147483647), hnow, hs1⟩, Rep.keep hr5 fun b o h1 h2 => World.cell?_of_block (a := ⟨b, o, none⟩) (FB fun hx => by
   have h1':W3.heap.size<=b:=h1
   have:=HC3.out.size
   have:=(Array.getElem?_eq_some_iff.1 H3.out.blk).1
   have:=H3.out.maps.tasks.lt;have:=H3.out.maps.timers.lt;have:=H3.out.maps.keys.lt
   have hx':XY Y g bt bm bk b:=hx
   rcases hx' with hx|rfl|rfl|rfl|rfl
   ·have:=HYY.out b hx;omega
   all_goals omega),by rw[DM];exact Nat.le_refl _⟩
 obtain⟨wd,hput,hmd,hturn⟩:=(H3.out.later hq5).maps.tasks.put (by simp only[maxLen];omega) htr (ts':=s.tasks++ [⟨id,name,ev,0,false,now⟩]) (fun q=>LK hnone q)
 obtain⟨hsd,hcd⟩:=(H3.out.later hq5).turnT hturn hmd (Nat.le_succ _)
 have hput':(Instr.mapUpdate 119 (.map (some bt)) (.int .u64 (id:Nat)) (.agg #[.int .u64 (id:Nat),.string name,.int .i64 kq,.int .i64 nq,.float .f64 fq,.string sq,.slice A2 lq.length cap2,.int .i64 0,.bool false,.int .u64 (now:Nat)])).run Tryz.prog w5= .ok () wd:=hput
 have KWD:Hid ((fun W=>W.cell? ⟨g,0,none⟩=some (.map (some bt))/\W.cell? ⟨w.heap.size,1,none⟩=some (.int .u64 (id:Nat))/\W.cell? ⟨w.heap.size,4,none⟩=some (.string name)/\W.cell? ⟨w.heap.size,6,none⟩=some (.int .i64 vk)/\W.cell? ⟨w.heap.size,7,none⟩=some (.int .i64 vn)/\W.cell? ⟨w.heap.size,8,none⟩=some (.float .f64 vf)/\W.cell? ⟨w.heap.size,9,none⟩=some (.string vs)/\W.cell? ⟨w.heap.size,10,none⟩=some (.slice A m c)) wd):=Lib.hid (by
  obtain⟨q0,-⟩:=DE hsd.blk
  obtain⟨-,z1,-,-,z4,-,z6,z7,z8,z9,z10⟩:=Ev.EBox.cells ((hturn.grown.block w.heap.size (by have:=HZ3.out;have:=HZ2.out;omega) (fun e=>by injection e with e;have:=H0.out.maps.tasks.lt;omega)).trans (HX3.out.later hq5 (by have:=HZ3.out;have:=HZ2.out;omega)))
  exact⟨q0,z1,z4,z6,z7,z8,z9,z10⟩)
 have HSD:=Lib.hid hsd;have HCD:=Lib.hid ((HC3.out.trans (Chg.of_below hq5)).trans hcd)
 have HX:Hid (Dc now alone ⟨7,id,en,at',name,text,ev⟩ s=some {s with tasks:=s.tasks++ [⟨id,name,ev,0,false,now⟩],next:=s.next+1}):=Lib.hid (by simp[Dc,HID.out])
 have HQ5:=Lib.hid hq5
 clear ht hr5 hb9 hnone htr hput hmd hturn hsd hcd hq5
 go_wp2_with fail
 refine hK.out _ _ (KS5.out _ HQ5.out) (fun hHeld2=> ?_)
 clear hK K hHeld
 try simp only[ap]
 refine tk 14 rfl ?_
 refine rd1 15 rfl fun K hK=> ?_
 go_simp
 refine hK.out _ _ KWD.out (fun hHeld3=> ?_)
 clear hK K hHeld2
 try simp only[ap]
 refine wpAnyH_done (by kernel_rfl) ?_ _
 refine NoPanic.normal ?_
 clear hHeld3
 clear h c0 c1 c2 c3 c4 f0 f1 f2 f3 f4 e0 e1 e2 e3 e4 e5 e6 e7 e8 e9 e10
 go_wp2_with fail
 go_ret
 exact⟨HCD.out,by rw[HX.out];exact⟨rfl,HSD.out⟩⟩
open Ev (fieldsOf DB OR)
theorem Li {e:EV}(hf:Dj e)(hv:e.valid=true)(hs:e.v.Slim 900):FW e:=by
 unfold Ev.EV.valid OR at hv
 simp only[List.all_cons,List.all_nil,Bool.and_true,Bool.and_eq_true,decide_eq_true_eq] at hv
 obtain⟨⟨h0,h1⟩,-,g1,g2,-⟩:=hv
 have hn:0<=e.n/\e.n<=2147483647:=by
  unfold DB at g1
  split at g1
  ·have:=of_decide_eq_true g1;omega
  ·have : e.n = 0 := by simpa using g1
   omega
 refine⟨hf,h0,h1,hn.1,hn.2,fun h3=> ?_,hs⟩
 rw[h3] at g2
 have:(fieldsOf (3:Int).toNat).contains 2=false:=by decide
 rw[this] at g2
 unfold DB at g2
 simpa using g2
theorem NW (g bt bm bk : Nat) (s : ST) (h : SAt Y w g bt bm bk n s) (hn : n < 17592186044416) (hx : s.next < 1152921504606846976) (hf : OQ s) (hY : ∀ b, Y b -> b < w.heap.size) (e : EV) (he : FW e) (vk vn : Int) (vf : Nat) (vs : ByteArray) (A : Option Addr) (m c : Nat)
  (lo hi':Nat) (hv:Rep w lo hi' e.v (Dn vk vn vf vs A m c)) (hhi:hi'<=w.heap.size) (hlow:hi'<=g/\hi'<=bt/\hi'<=bm/\hi'<=bk) (now:Nat) (hnow:now<18446744073709551616) (alone:Bool) :
  Calls Tryz.prog 103 #[.pointer (some ⟨g,0,none⟩),.agg (Db e vk vn vf vs A m c),.int .u64 (now:Nat),.bool alone] w (Sp Y w g bt bm bk n (Dc now alone e s)):=by
 have h0:=he.k0;have h1:=he.k1
 rcases (by omega:e.k=1\/e.k=2\/e.k=3\/e.k=4\/e.k=5\/e.k=6\/e.k=7\/e.k=8\/e.k=9\/e.k=10\/e.k=11) with k|k|k|k|k|k|k|k|k|k|k
 ·exact apply1 g bt bm bk s h e he k vk vn vf vs A m c now alone
 ·exact apply2 g bt bm bk s h e he k vk vn vf vs A m c now alone hn
 ·exact Jo g bt bm bk s h e he k vk vn vf vs A m c now alone
 ·by_cases ha : e.at' = 0
  ·exact Jn g bt bm bk s h e he k vk vn vf vs A m c now alone ha
  ·exact KC g bt bm bk s h e he k vk vn vf vs A m c now alone hn ha
 ·exact apply5 g bt bm bk s h e he k vk vn vf vs A m c now alone
 ·exact apply6 g bt bm bk s h e he k vk vn vf vs A m c now alone hn
 ·exact apply7 g bt bm bk s h e he k vk vn vf vs A m c now alone hn hx hf hY lo hi' hv hhi hlow hnow
 ·exact apply8 g bt bm bk s h e he k vk vn vf vs A m c now alone hn hx hf
 ·exact apply9 g bt bm bk s h e he k vk vn vf vs A m c now alone
 ·exact apply10 g bt bm bk s h e he k vk vn vf vs A m c now alone
 ·exact apply11 g bt bm bk s h e he k vk vn vf vs A m c now alone
theorem OO {now:Nat}{alone:Bool}{e:EV}{s s':ST}(h:Dc now alone e s=some s'):s'.next<=s.next+1:=by
 unfold Dc at h
 repeat' split at h
 all_goals first | cases h|skip
 all_goals first | exact Nat.le_succ _|exact Nat.le_refl _|skip
theorem PS {now:Nat}{alone:Bool}{e:EV}{s s':ST}(h:Dc now alone e s=some s'):s'.keys.length<=s.keys.length+1:=by
 unfold Dc at h
 repeat' split at h
 all_goals first | cases h|skip
 all_goals first | exact Nat.le_succ _|(simp;done)|skip
theorem Nc {now : Nat} {e : EV} {r : List EV} {first : Bool} {s : ST} (hk : decide (e.k <= 6) = first) : runM now (e :: r) first s = (Dc now r.isEmpty e s).bind (runM now r false) := by
 rw[runM,if_pos hk]
theorem runM_not {now : Nat} {e : EV} {r : List EV} {first : Bool} {s : ST} (hk : ¬ decide (e.k <= 6) = first) : runM now (e :: r) first s = none := by
 rw[runM,if_neg hk]
theorem XC {es:List EV}{j:Nat}(h:j<es.length):(es.drop (j+1)).isEmpty=decide ((j:Int)=(es.length:Int)-1):=by
 by_cases q:j+1=es.length
 ·rw[q,List.drop_length,decide_eq_true (by omega)];rfl
 ·rw [decide_eq_false (by omega)]
  cases hd:es.drop (j+1) with
  | nil=>rw[List.drop_eq_nil_iff] at hd;omega
  | cons a l=>rfl
end Hi
namespace Cn
open Nm (Di Dk De)
open Vt (VT Rep BoxAt Da DX DY KidsAt Fy)
open Ev (EV Dj Db Dn EBox SJ zeroT take_drop tk ap rd1 rd2 Dh)
open Cm (rowOf EvsIn EvsAt EvNew FU Gr)
def GY (e:EV):Bool:=e.v.few&&decide (e.name.size<=1100)&&decide (e.text.size<=1100)
theorem M59 (h:p:=by
 go_wp2_with (go_at_call 78;refine HV.out.mono ?_;rintro x w1 ⟨rfl,hb1⟩;have HB1:=Lib.hid (HB0.out.trans (hb1.mono HB0.out.size));obtain⟨q0,q1,q2,q3,q4,q5,q6,q7,q8,q9,q10⟩:=EBox.cells (HX0.out.later hb1 HX0.out.lt);clear hb1)
 go_ret
 exact⟨De (by unfold GY;rw[HFW.out];simp;omega),HB1.out⟩):p:=h
theorem Q477.Y475 (h:p:=by
 have HV:=Lib.hid (Vt.few_any e.v W0 lo hi _ (hv.later (hb0.mono hz)) (Nat.le_trans hz hb0.size))
 obtain⟨g0,g1,g2,g3,g4,g5,g6,g7,g8,g9,g10⟩:=EBox.cells hx0
 have HX0:=Lib.hid hx0
 have HB0:=Lib.hid hb0
 have hsn:=hf.s1
 have hst:=hf.t1
 simp only[maxLen] at hsn hst
 clear hv hf hx0 hb0
 unfold Db at hW0 ⊢
 unfold Dn at HV
 replace hW0:=Lib.hid hW0
 go_enter Tryz.func47,Tryz.ntmps47
 go_upto_region 1 with fail
 rw[<-hW0.out]
 generalize hfw:e.v.few=fw at *
 have HFW:=Lib.hid hfw;clear hfw
 cases fw with
 | false=>
  go_wp2_with (go_at_call 78;refine HV.out.mono ?_;rintro x w1 ⟨rfl,hb1⟩;have HB1:=Lib.hid (HB0.out.trans (hb1.mono HB0.out.size));clear hb1)
  go_ret
  exact⟨De (by unfold GY;rw[HFW.out];rfl),HB1.out⟩
 | true=>
  by_cases h1:e.name.size<=1100
  ·have k1 : decide ((e.name.size : Int) <= 1100) = true := decide_eq_true (by omega)
   by_cases h2:e.text.size<=1100
   ·have k2 : decide ((e.text.size : Int) <= 1100) = true := decide_eq_true (by omega)
    exact M59
   ·have k2 : decide ((e.text.size : Int) <= 1100) = false := decide_eq_false (by omega)
    exact M59
  ·have k1 : decide ((e.name.size : Int) <= 1100) = false := decide_eq_false (by omega)
   exact M59):p:=h
theorem M475 (h:p:=by
 obtain⟨W0,hW0⟩:∃W0,W0=w.alloc (.cells (Db e vk vn vf vs A m c) 61):=⟨_,rfl⟩
 have hb0:Below w.heap.size w W0:=by rw[hW0];exact(Below.refl _ _).alloc (Nat.le_refl _) _
 have hx0:EBox W0 w.heap.size (Db e vk vn vf vs A m c):=by rw[hW0];exact Gs ..
 exact Y475):p:=h
theorem efew_any (e:EV)(hf:Dj e)(lo hi:Nat)(vk vn:Int)(vf:Nat)(vs:ByteArray)(A:Option Addr)(m c:Nat)(w:World)(hv:Rep w lo hi e.v (Dn vk vn vf vs A m c))(hz:hi<=w.heap.size) :
  Calls Tryz.prog 47 #[.agg (Db e vk vn vf vs A m c)] w fun r w'=>r= .returned (.bool (GY e))/\Below w.heap.size w w':=by
 open Q477 in exact M475
structure BT where mk ::
 flow:ByteArray
 at':Nat
 es:List EV
structure BtsIn (w : World) (A : Option Addr) (cap : Nat) (bl : List BT) : Prop where
 le:bl.length<=cap
 cap_le:cap<=maxLen
 at_:0<bl.length->∃b off,A=some ⟨b,off,none⟩/\b<w.heap.size/\∀i (h:i<bl.length),∃A' c',bl[i].flow.size<=maxLen/\bl[i].at'<18446744073709551616/\EvsIn w A' c' bl[i].es/\
  w.cell? ⟨b,off+i*3,none⟩=some (.string bl[i].flow)/\w.cell? ⟨b,off+i*3+1,none⟩=some (.int .u64 bl[i].at')/\w.cell? ⟨b,off+i*3+2,none⟩=some (.slice A' bl[i].es.length c')
theorem BtsIn.later {w w':World}{A:Option Addr}{cap:Nat}{bl:List BT}(h:BtsIn w A cap bl)(hb:Below w.heap.size w w'):BtsIn w' A cap bl:=⟨h.le,h.cap_le,fun hp=>by
 obtain⟨b,off,hA,hlt,h3⟩:=h.at_ hp
 refine⟨b,off,hA,Nat.lt_of_lt_of_le hlt hb.size,fun i hi=> ?_⟩
 obtain⟨A',c',h4,h5,h6,c0,c1,c2⟩:=h3 i hi
 have e:∀o,w'.cell? ⟨b,o,none⟩=w.cell? ⟨b,o,none⟩:=fun o=>hb.cell (p:=⟨b,o,none⟩) hlt
 exact⟨A',c',h4,h5,h6.later hb,(e _).trans c0,(e _).trans c1,(e _).trans c2⟩⟩
def PV (bl:List BT):Nat:=(bl.map fun b=>min b.es.length 100).sum
structure Vj (bl : List BT) : Prop where
 len:bl.length<=60
 sum:PV bl<=150
 flow:∀i (h:i<bl.length),bl[i].flow.size<=300
 few:∀i (h:i<bl.length) k (hk:k<bl[i].es.length),GY bl[i].es[k]=true
theorem LA (bl:List BT)(j:Nat)(h:j<bl.length):PV (bl.take (j+1))=PV (bl.take j)+min bl[j].es.length 100:=by
 unfold PV
 rw[List.take_succ_eq_append_getElem h,List.map_append,List.sum_append];simp
def Few12Res (bl:List BT)(w:World)(r:Ending)(w':World):Prop:=∃b,r= .returned (.bool b)/\(b=true->Vj bl)/\Below w.heap.size w w'
theorem SG (bl:List BT)(A:Option Addr)(cap:Nat)(w:World)(h:BtsIn w A cap bl) :
  Calls Tryz.prog 27 #[.slice A bl.length cap] w (Few12Res bl w):=by
 have hl:=h.le
 have hc:=h.cap_le
 simp only[maxLen] at hc
 have HK:=Lib.hid h;clear h
 go_enter Tryz.func27,Tryz.ntmps27
 go_wp2_with fail
 go_loopw [2,3,4] (fun r n i wr=>∃(j y:Nat),j<=bl.length/\i= .int .i64 j/\r= .bool false/\n= .int .i64 y/\y<=150/\y=PV (bl.take j)/\(∀i (h:i<bl.length),i<j->bl[i].flow.size<=300/\∀k (hk:k<bl[i].es.length),GY bl[i].es[k]=true)/\Below w.heap.size w wr) (fun _ _ i _=>bl.length-(intOf i).toNat)
 case atStart=>exact⟨0,0,by omega,rfl,rfl,rfl,by omega,rfl,fun i _ h=>absurd h (by omega),Below.refl _ _⟩
 case round=>
  obtain⟨j,y,hj,rfl,rfl,rfl,hy,hys,hfew,hb⟩:=hrel
  have HF:=Lib.hid hfew
  have HB:=Lib.hid hb
  have HYS:=Lib.hid hys
  clear hfew hb hys
  by_cases hlt:j<bl.length
  ·obtain ⟨b, off, rfl, hblt, h3⟩ := (HK.out.later HB.out).at_ (by omega)
   obtain⟨A',c',hfl,hat,hes,d0,d1,d2⟩:=h3 j hlt
   have hle:=hes.le
   have hcm:=hes.cap_le
   simp only[maxLen] at hcm hfl
   have HES:=Lib.hid fun W (hW:Below wr.heap.size wr W)=>hes.later hW
   have HD:=Lib.hid fun W (hW:Below wr.heap.size wr W)=>(hW.cell (p:=⟨b,off+j*3+2,none⟩) hblt).trans d2
   have HWT:=Lib.hid (LA bl j hlt)
   clear h3 hes
   obtain⟨es,hes⟩:∃es,es=bl[j].es:=⟨_,rfl⟩
   rw[<-hes] at HES HD HWT d2 hle
   have HEE:=Lib.hid hes
   clear hes
   generalize hn:es.length=n at *
   have HN:=Lib.hid hn;clear hn
   generalize hff:bl[j].flow=ff at *
   have HSZ:Hid (bl[j].flow.size=ff.size):=Lib.hid (by rw[hff]);clear hff
   go_upto_region 6 with fail
   obtain⟨z,hz⟩:∃z:Int,z=(y:Int)+(if (100:Int)<(n:Int) then (100:Int) else (n:Int)):=⟨_,rfl⟩
   have hz0:z=((y+min n 100:Nat):Int):=by rw[hz];split<;>omega
   rw[<-hz]
   have hzz:z<=250:=by omega
   have hzp:0<=z:=by omega
   have HZ:=Lib.hid hz0
   clear hz hz0 d1
   generalize (if (100:Int)<(n:Int) then (100:Int) else (n:Int))=mm at *
   by_cases hz4:150<z
   ·have hb4 : decide (150 < z) = true := by simpa using hz4
    go_wp2_with fail
    go_ret
    exact⟨false,rfl,(fun h=>by cases h),HB.out⟩
   ·have hb4 : decide (150 < z) = false := by simpa using hz4
    by_cases hs4:300<ff.size
    ·have hb5 : decide ((300 : Int) < (ff.size : Int)) = true := decide_eq_true (by omega)
     go_wp2_with fail
     go_ret
     exact⟨false,rfl,(fun h=>by cases h),HB.out⟩
    ·have hb5 : decide ((300 : Int) < (ff.size : Int)) = false := decide_eq_false (by omega)
     have HSZ4:=Lib.hid hs4
     have HZ4:=Lib.hid hz4
     have HBF:=Lib.hid fun W (hW:Below wr.heap.size wr W)=>HB.out.trans (hW.mono HB.out.size)
     have hzj:y<=150:=hy
     go_wp2_with fail
     go_loopw [2,5] (fun r i wi=>∃(k:Nat),k<=n/\i= .int .i64 k/\r= .bool false/\(∀q (hq:q<es.length),q<k->GY es[q]=true)/\Below wr.heap.size wr wi) (fun _ i _=>n-(intOf i).toNat)
     case atStart=>exact⟨0,by omega,rfl,rfl,fun q _ h=>absurd h (by omega),Below.refl _ _⟩
     case round=>
      obtain⟨k,hk,rfl,rfl,hall,hbi⟩:=hrel
      have HALL:=Lib.hid hall;have HBI:=Lib.hid hbi
      have hdd:=HD.out _ hbi
      clear hall hbi
      by_cases hkl:k<n
      ·have hke : k < es.length := by have := HN.out; omega
       obtain⟨b2,off2,lo,hi,vk,vn,vf,vs,A2,m2,c2,rfl,hbl2,hf,hv,hhi,e0,e1,e2,e3,e4,e5,e6,e7,e8,e9,e10⟩:=(HES.out _ HBI.out).get k hke
       have HC:=Lib.hid (efew_any es[k] hf lo hi vk vn vf vs A2 m2 c2 _ hv hhi)
       unfold Db at HC
       clear hf hv
       go_wp2_with fail
       refine HC.out.mono ?_
       rintro x w1 ⟨rfl,hb1⟩
       have HB1:=Lib.hid (HBI.out.trans (hb1.mono HBI.out.size))
       clear hb1 e0 e1 e2 e3 e4 e5 e6 e7 e8 e9 e10 HC
       cases hp:GY es[k] with
       | true=>
        have HP:=Lib.hid hp;clear hp
        go_wp2_with fail
        go_roundw
        case rel => exact ⟨k + 1, by omega, by go_num, rfl, fun q h hm => by
         rcases Nat.lt_or_ge q k with z|z
         ·exact HALL.out q h z
         ·obtain rfl : q = k := by omega
          exact HP.out,HB1.out⟩
        case measure=>simp[intOf];omega
       | false=>
        have HP:=Lib.hid hp;clear hp
        go_wp2_with fail
        go_ret
        exact⟨false,rfl,(fun h=>by cases h),HBF.out _ HB1.out⟩
      ·have hk' : k = n := by omega
       subst hk'
       have HFIN:Hid (∀i (h:i<bl.length),i<j+1->bl[i].flow.size<=300/\∀k (hk:k<bl[i].es.length),GY bl[i].es[k]=true):=Lib.hid fun i h hij=>by
        rcases Nat.lt_or_ge i j with z|z
        ·exact HF.out i h z
        ·obtain rfl : i = j := by omega
         refine⟨by have:=HSZ.out;have:=HSZ4.out;omega,fun q hq=> ?_⟩
         have hE:=HEE.out
         have:=HALL.out q (by rw[hE];exact hq) (by have:=HN.out;rw[hE] at this;omega)
         simp only[hE] at this
         exact this
       go_wp2_with fail
       exact⟨⟨j+1,y+min k 100,by omega,by go_num,rfl,by rw[HZ.out],by have:=HZ.out;have:=HZ4.out;omega,by rw[HWT.out, <-HYS.out],HFIN.out,HBF.out _ HBI.out⟩,by simp[intOf];omega⟩
  ·have hj' : j = bl.length := by omega
   subst hj'
   rw[List.take_length] at HYS
   go_wp2_with fail
   go_ret
   exact⟨decide (bl.length<=60),De (decide_eq_decide.2 (by omega)),fun h=>⟨by simpa using h,by have:=HYS.out;omega,fun i hi=>(HF.out i hi hi).1,fun i hi=>(HF.out i hi hi).2⟩,HB.out⟩
end Cn
namespace Hi
open Vt (VT)
open Ev (EV)
open Cn (BT)
structure HM where mk ::
 flow:ByteArray
 bs:List BT
 s:ST
def HM.new (f:ByteArray):HM:=⟨f,[],⟨[],[],[],1,0⟩⟩
def HM.at' (h : HM) : Nat := match h.bs.getLast? with
 | some b=>b.at'
 | none=>0
def Oo (b : BT) : Int := match b.es with
 | e::_=>e.k
 | []=>0
def bOk (b:BT):Bool:=decide (b.at'<=9223372036854775807)&&decide (0<b.es.length)&& !b.es.any (fun e=> !e.valid)
def Du (h:HM)(b:BT):Int×HM:=
 if bOk b=false then (2,h)
 else if b.flow≠h.flow then (6,h)
 else if h.s.closed≠0 then (8,h)
 else if b.at'<h.at'\/¬(Oo b=1↔h.bs= []) then (12,h)
 else match runM b.at' b.es true h.s with
  | none=>(12,h)
  | some s'=>(0,⟨h.flow,h.bs++ [b],s'⟩)
theorem Pw (h:HM)(b:BT):(Du h b).2.flow=h.flow:=by
 unfold Du
 repeat' split
 all_goals rfl
theorem Sk {h:HM}{b:BT}(hc:(Du h b).1≠0):(Du h b).2=h:=by
 unfold Du at hc ⊢
 by_cases h1:bOk b=false
 ·rw[if_pos h1]
 ·rw [if_neg h1] at hc ⊢
  by_cases h2:b.flow≠h.flow
  ·rw[if_pos h2]
  ·rw [if_neg h2] at hc ⊢
   by_cases h3:h.s.closed≠0
   ·rw[if_pos h3]
   ·rw [if_neg h3] at hc ⊢
    by_cases h4:b.at'<h.at'\/¬(Oo b=1↔h.bs= [])
    ·rw[if_pos h4]
    ·rw [if_neg h4] at hc ⊢
     cases hr:runM b.at' b.es true h.s with
     | none=>rfl
     | some s'=>rw[hr] at hc;exact absurd rfl hc
theorem Lq {h:HM}{b:BT}(hc:(Du h b).1=0):(Du h b).2.flow=h.flow/\(Du h b).2.bs=h.bs++ [b]:=by
 unfold Du at hc ⊢
 by_cases h1:bOk b=false
 ·rw[if_pos h1] at hc;exact absurd (show (2:Int)=0 from hc) (by decide)
 ·rw [if_neg h1] at hc ⊢
  by_cases h2:b.flow≠h.flow
  ·rw[if_pos h2] at hc;exact absurd (show (6:Int)=0 from hc) (by decide)
  ·rw [if_neg h2] at hc ⊢
   by_cases h3:h.s.closed≠0
   ·rw[if_pos h3] at hc;exact absurd (show (8:Int)=0 from hc) (by decide)
   ·rw [if_neg h3] at hc ⊢
    by_cases h4:b.at'<h.at'\/¬(Oo b=1↔h.bs= [])
    ·rw[if_pos h4] at hc;exact absurd (show (12:Int)=0 from hc) (by decide)
    ·rw [if_neg h4] at hc ⊢
     cases hr:runM b.at' b.es true h.s with
     | none=>rw[hr] at hc;exact absurd (show (12:Int)=0 from hc) (by decide)
     | some s'=>exact⟨rfl,rfl⟩
def tot (l:List BT):Nat:=(l.map fun b=>b.es.length).sum
theorem GA (l:List BT)(b:BT):tot (l++ [b])=tot l+b.es.length:=by unfold tot;rw[List.map_append,List.sum_append];simp
theorem Yd (l:List BT)(j:Nat)(h:j<l.length):tot (l.take (j+1))=tot (l.take j)+l[j].es.length:=by rw[List.take_succ_eq_append_getElem h,GA]
theorem VI {now : Nat} : ∀ (es : List EV) (first : Bool) (s s' : ST), OQ s -> runM now es first s = some s' -> OQ s'
 | [],_,s,s',hf,h=>by cases h;exact hf
 | e :: r, first, s, s', hf, h => by
  unfold runM at h
  split at h
  ·cases ha:Dc now r.isEmpty e s with
   | none=>rw[ha] at h;cases h
   | some s1=>rw[ha] at h;exact VI r false s1 s' (OI hf ha) h
  ·cases h
theorem SA {now : Nat} : ∀ (es : List EV) (first : Bool) (s s' : ST), runM now es first s = some s' -> s'.next <= s.next + es.length /\ s'.keys.length <= s.keys.length + es.length
 | [],_,s,s',h=>by cases h;simp
 | e :: r, first, s, s', h => by
  unfold runM at h
  split at h
  ·cases ha:Dc now r.isEmpty e s with
   | none=>rw[ha] at h;cases h
   | some s1=>
    rw[ha] at h
    have:=SA r false s1 s' h
    have:=OO ha
    have:=PS ha
    simp;omega
  ·cases h
structure PA (h : HM) : Prop where
 fine:OQ h.s
 next:h.s.next<=tot h.bs+1
 pos:∀b∈h.bs,0<b.es.length
theorem VP (f:ByteArray):PA (HM.new f):=⟨NG,by simp[HM.new,tot],fun b h=>by simp[HM.new] at h⟩
theorem bOk_pos {b:BT}(h:¬bOk b=false):0<b.es.length:=by
 unfold bOk at h
 rcases Nat.eq_zero_or_pos b.es.length with e|e
 ·exfalso;apply h;rw[e];simp
 ·exact e
theorem VQ {h:HM}(hf:PA h)(b:BT):PA (Du h b).2:=by
 unfold Du
 by_cases h1:bOk b=false
 ·rw[if_pos h1];exact hf
 ·rw [if_neg h1]
  split
  ·exact hf
  ·split
   ·exact hf
   ·split
    ·exact hf
    ·cases hr:runM b.at' b.es true h.s with
     | none=>exact hf
     | some s'=>exact⟨VI _ _ _ _ hf.fine hr,by
       have:=(SA _ _ _ _ hr).1
       have:=hf.next
       show s'.next<=tot (h.bs++ [b])+1
       rw[GA];omega,fun c hc=>by
       rcases List.mem_append.1 (show c∈h.bs++ [b] from hc) with q|q
       ·exact hf.pos c q
       ·rw[List.mem_singleton.1 q];exact bOk_pos h1⟩
def goM (now n : Nat) : Nat -> List EV -> ST -> Option ST
 | _,[],s=>some s
 | j,e::r,s=>(Dc now (decide (j+1=n)) e s).bind (goM now n (j+1) r)
theorem Yx {now n : Nat} : ∀ (r : List EV) (j : Nat) (s : ST), j + r.length = n -> (∀ i (h : i < r.length), decide (r[i].k <= 6) = decide (j + i = 0)) -> runM now r (decide (j = 0)) s = goM now n j r s
 | [],j,s,_,_=>rfl
 | e::r,j,s,hn,hf=>by
  have h0:=hf 0 (by simp)
  simp only[List.getElem_cons_zero,Nat.add_zero] at h0
  have he:r.isEmpty=decide (j+1=n):=by
   rw[List.length_cons] at hn
   cases r with
   | nil=>rw[List.length_nil] at hn;exact(decide_eq_true (by omega:j+1=n)).symm
   | cons a r=>rw[List.length_cons] at hn;exact(decide_eq_false (by omega:¬j+1=n)).symm
  unfold runM goM
  rw[if_pos h0,he]
  cases Dc now (decide (j+1=n)) e s with
  | none=>rfl
  | some s1=>
  show runM now r false s1=goM now n (j+1) r s1
  have h := Yx (now := now) (n := n) r (j + 1) s1 (by have h9 : (e :: r).length = r.length + 1 := List.length_cons; omega) (fun i hi => by
   have q:=hf (i+1) (by rw[List.length_cons];omega)
   rw[List.getElem_cons_succ] at q
   rw[q,show j+1+i=j+(i+1) by omega])
  rw[show decide (j+1=0)=false from decide_eq_false (by omega)] at h
  exact h
theorem Yy {now : Nat} : ∀ (r : List EV) (j : Nat) (s : ST), (∃ i, ∃ h : i < r.length, decide (r[i].k <= 6) ≠ decide (j + i = 0)) -> runM now r (decide (j = 0)) s = none
 | [],j,s,h=>by obtain⟨i,h,-⟩:=h;simp at h
 | e::r,j,s,hx=>by
  unfold runM
  by_cases h0:decide (e.k<=6)=decide (j=0)
  ·rw [if_pos h0]
   obtain⟨i,h,hi⟩:=hx
   cases ha:Dc now r.isEmpty e s with
   | none=>rfl
   | some s1=>
    cases i with
    | zero=>exact absurd h0 hi
    | succ i=>
     have q := Yy (now := now) r (j + 1) s1 ⟨i, by simpa using h, by
      rw[List.getElem_cons_succ] at hi
      rw[show j+1+i=j+(i+1) by omega]
      exact hi⟩
     rw[show decide (j+1=0)=false from decide_eq_false (by omega)] at q
     exact q
  ·rw[if_neg h0]
theorem goM_at {now n:Nat}{es:List EV}{j:Nat}(h:j<es.length)(s:ST):goM now n j (es.drop j) s=(Dc now (decide (j+1=n)) es[j] s).bind (goM now n (j+1) (es.drop (j+1))):=by
 rw[List.drop_eq_getElem_cons h];rfl
theorem goM_end {now n:Nat}{es:List EV}{j:Nat}(h:es.length<=j)(s:ST):goM now n j (es.drop j) s=some s:=by
 rw[List.drop_eq_nil_of_le h];rfl
def AtM (now : Nat) (es : List EV) (s0 : ST) (j : Nat) (o : Option ST) : Prop := goM now es.length 0 es s0 = match o with
 | some s=>goM now es.length j (es.drop j) s
 | none=>none
theorem NV {now:Nat}{es:List EV}(s0:ST)(h:0<es.length):AtM now es s0 1 (Dc now (decide (0+1=es.length)) es[0] s0):=by
 unfold AtM
 have q:=goM_at (now:=now) (n:=es.length) h s0
 rw[List.drop_zero] at q
 rw[q]
 cases Dc now (decide (0+1=es.length)) es[0] s0<;>rfl
theorem atM_next {now:Nat}{es:List EV}{s0 s:ST}{j:Nat}(hj:j<es.length)(h:AtM now es s0 j (some s)):AtM now es s0 (j+1) (Dc now (decide (j+1=es.length)) es[j] s):=by
 unfold AtM at h ⊢
 rw[h]
 simp only
 rw[goM_at hj]
 cases Dc now (decide (j+1=es.length)) es[j] s<;>rfl
theorem atM_end {now:Nat}{es:List EV}{s0:ST}{o:Option ST}{j:Nat}(hj:es.length<=j)(h:AtM now es s0 j o):goM now es.length 0 es s0=o:=by
 unfold AtM at h
 rw[h]
 cases o with
 | none=>rfl
 | some s=>exact goM_end hj s
theorem atM_none {now:Nat}{es:List EV}{s0:ST}{j:Nat}(h:AtM now es s0 j none):goM now es.length 0 es s0=none:=h
theorem Sj {h : HM} {b : BT} (h1 : ¬ bOk b = false) (h2 : b.flow = h.flow) (h3 : h.s.closed = 0) (h4 : ¬ (b.at' < h.at' \/ ¬ (Oo b = 1 ↔ h.bs = []))) : Du h b = match runM b.at' b.es true h.s with
  | none=>(12,h)
  | some s'=>(0,⟨h.flow,h.bs++ [b],s'⟩):=by
 unfold Du
 rw[if_neg h1,if_neg (fun q=>q h2),if_neg (fun q=>q h3),if_neg h4]<;>cases runM b.at' b.es true h.s<;>rfl
theorem addM_2 {h:HM}{b:BT}(h1:bOk b=false):Du h b=(2,h):=by unfold Du;rw[if_pos h1]
theorem addM_6 {h:HM}{b:BT}(h1:¬bOk b=false)(h2:b.flow≠h.flow):Du h b=(6,h):=by unfold Du;rw[if_neg h1,if_pos h2]
theorem addM_8 {h:HM}{b:BT}(h1:¬bOk b=false)(h2:b.flow=h.flow)(h3:h.s.closed≠0):Du h b=(8,h):=by unfold Du;rw[if_neg h1,if_neg (fun q=>q h2),if_pos h3]
theorem Lr {h:HM}{b:BT}(h1:¬bOk b=false)(h2:b.flow=h.flow)(h3:h.s.closed=0)(h4:b.at'<h.at'\/¬(Oo b=1↔h.bs= [])):Du h b=(12,h):=by unfold Du;rw[if_neg h1,if_neg (fun q=>q h2),if_neg (fun q=>q h3),if_pos h4]
def rep (f:ByteArray)(l:List BT):HM:=l.foldl (fun h b=>(Du h b).2) (HM.new f)
open Nm (Dk De)
open Vt (Rep Da DX)
open Ev (Dj Db Dn take_drop tk ap rd1 rd2 Dh)
open Cm (rowOf EvsIn EvsAt EvNew)
open Cn (BtsIn GF)
variable {X X' Y Y' : Nat -> Prop} {u v w w' V V' : World} {hb bt bm bk n cap : Nat} {A : Option Addr} {h : HM}
theorem BtsIn.leads {A:Option Addr}{cap:Nat}{bl:List BT}(h:BtsIn v A cap bl)(hl:Leads v w):BtsIn w A cap bl:=⟨h.le,h.cap_le,fun hp=>by
 obtain⟨b,off,hA,hlt,h3⟩:=h.at_ hp
 refine⟨b,off,hA,Nat.lt_of_lt_of_le hlt hl.size,fun i hi=> ?_⟩
 obtain⟨A',c',h4,h5,h6,c0,c1,c2⟩:=h3 i hi
 exact⟨A',c',h4,h5,EvsIn.leads h6 hl,hl.cell c0,hl.cell c1,hl.cell c2⟩⟩
theorem Km {base:Nat}{A:Option Addr}{cap n:Nat}{es:List EV}(h:EvsAt w base A cap n es)(hz:w.heap.size<=w'.heap.size)(hb:∀b,base<=b->b<w.heap.size->w'.heap[b]?=w.heap[b]?):EvsAt w' base A cap n es:=by
 obtain⟨h0,xs,h1,h3⟩:=h
 refine⟨h0,xs,⟨h1.1,?_⟩,fun i hi=> ?_⟩
 ·rcases h1.2 with h | ⟨r, cp, cur, q1, q2, q3, q4⟩
  ·exact .inl h
  ·exact .inr ⟨r,cp,cur,q1,q2,(hb r q2 (Array.getElem?_eq_some_iff.1 q3).1).trans q3,q4⟩
 ·obtain ⟨lo, hi', vk, vn, vf, vs, A, m, c, h0, h1, h2, h3, h5, hfr, h6⟩ := h3 i hi
  have hin:=Cm.Pp h2
  exact⟨lo,hi',vk,vn,vf,vs,A,m,c,h0,h1,h2.keep fun b o z1 z2=>World.cell?_of_block (a:=⟨b,o,none⟩) (hb b (by omega) (by omega)),Nat.le_trans h3 hz,h5,fun hp b off hA o=>(Cm.DO (hb b (by have:=hin hp b off hA;omega) (by have:=hin hp b off hA;omega)) o).trans (hfr hp b off hA o),h6⟩
def YH (Y:Nat->Prop)(hb:Nat)(A:Option Addr):Nat->Prop:=fun b=>Y b\/b=hb\/rowOf A=some b
def HZ (hb:Nat)(A:Option Addr):Nat->Prop:=fun b=>b=hb\/rowOf A=some b
def hC (bt bm bk next:Nat)(closed:Int)(flow:ByteArray)(A:Option Addr)(m c:Nat):Array Value:= #[.map (some bt),.map (some bm),.map (some bk),.int .u64 (next:Nat),.int .i64 closed,.string flow,.slice A m c]
theorem FT {W:World}{g bt bm bk next:Nat}{closed:Int}{flow:ByteArray}{A:Option Addr}{m c:Nat}(h:W.heap[g]?=some (.cells (hC bt bm bk next closed flow A m c) 125 (0,0))) :
  W.cell? ⟨g,0,none⟩=some (.map (some bt))/\W.cell? ⟨g,1,none⟩=some (.map (some bm))/\W.cell? ⟨g,2,none⟩=some (.map (some bk))/\W.cell? ⟨g,3,none⟩=some (.int .u64 (next:Nat))/\W.cell? ⟨g,4,none⟩=some (.int .i64 closed)/\W.cell? ⟨g,5,none⟩=some (.string flow)/\W.cell? ⟨g,6,none⟩=some (.slice A m c)/\∀o,W.frozen? ⟨g,o,none⟩=false:=by
 simp[World.cell?,World.frozen?,h,hC]
def BCell (V:World)(xs:List Value)(i:Nat)(b:BT):Prop:=∃A c,b.flow.size<=maxLen/\b.at'<18446744073709551616/\EvsIn V A c b.es/\xs[i*3]?=some (.string b.flow)/\xs[i*3+1]?=some (.int .u64 (b.at':Nat))/\xs[i*3+2]?=some (.slice A b.es.length c)
def BRow (w V:World)(A:Option Addr)(cap:Nat)(bl:List BT):Prop:=∃xs,w.ownsRow 0 64 3 (.slice A bl.length cap) bl.length xs/\∀i (h:i<bl.length),BCell V xs i bl[i]
theorem BRow.nil (w V:World):BRow w V none 0 []:=⟨[],⟨rfl,.inl ⟨rfl,rfl⟩⟩,fun i h=>absurd h (by simp)⟩
theorem BCell.leads {xs:List Value}{i:Nat}{b:BT}(h:BCell V xs i b)(hl:Leads V V'):BCell V' xs i b:=by
 obtain⟨A,c,h1,h2,h3,h4⟩:=h
 exact⟨A,c,h1,h2,EvsIn.leads h3 hl,h4⟩
theorem Dx {base n k cap:Nat}{T:TypeId}{A:Option Addr}{xs:List Value}(h:w.ownsRow base T k (.slice A n cap) n xs)(hb:∀r,rowOf A=some r->w'.heap[r]?=w.heap[r]?):w'.ownsRow base T k (.slice A n cap) n xs:=by
 refine⟨h.1,?_⟩
 rcases h.2 with h|⟨r,cp,cur,q1,q2,q3,q4⟩
 ·exact .inl h
 ·injection q1 with q1 _ q1'
  subst q1;subst q1'
  exact .inr ⟨r,cap,cur,rfl,q2,(hb r rfl).trans q3,q4⟩
theorem BRow.move {bl:List BT}(h:BRow w V A cap bl)(hb:∀r,rowOf A=some r->w'.heap[r]?=w.heap[r]?)(hl:Leads V V'):BRow w' V' A cap bl:=by
 obtain⟨xs,h1,h2⟩:=h
 exact⟨xs,Dx h1 hb,fun i hi=>(h2 i hi).leads hl⟩
theorem BRow.row_lt {bl:List BT}(h:BRow w V A cap bl):∀r,rowOf A=some r->r<w.heap.size:=by
 obtain⟨xs,h1,-⟩:=h
 exact fun r hr=>(Cn.own_lt h1 r hr).1
theorem DS {base n k cap:Nat}{T:TypeId}{A:Option Addr}{xs:List Value}(h:w.ownsRow base T k (.slice A n cap) n xs):n<=cap/\cap<=maxLen:=by
 rcases h.2 with ⟨h,h0⟩|⟨r,cp,cur,q1,q2,q3,q4,q5,-⟩
 ·injection h with _ _ h;subst h;exact⟨by omega,Nat.zero_le _⟩
 ·injection q1 with _ _ q1';subst q1';exact⟨q4,q5⟩
theorem BRow.read {bl:List BT}(h:BRow w V A cap bl)(hl:Leads V w):BtsIn w A cap bl:=by
 obtain⟨xs,h1,h2⟩:=h
 obtain⟨f1,f2⟩:=DS h1
 refine⟨f1,f2,fun hp=> ?_⟩
 rcases h1.2 with ⟨-,h0⟩|⟨r,cp,cur,q1,q2,q3,q4,q5,q6,q7⟩
 ·omega
 ·injection q1 with q1 _ q1'
  subst q1;subst q1'
  refine⟨r,0,rfl,(Array.getElem?_eq_some_iff.1 q3).1,fun i hi=> ?_⟩
  obtain⟨A',c,k1,k2,k3,k4,k5,k6⟩:=h2 i hi
  have e:∀p x,p<bl.length*3->xs[p]?=some x->w.cell? ⟨r,p,none⟩=some x:=fun p x hp hx=>by
   rw[<-q7,List.getElem?_take_of_lt hp,Array.getElem?_toList] at hx
   simp[World.cell?,q3,hx]
  exact⟨A',c,k1,k2,EvsIn.leads k3 hl,by rw[Nat.zero_add];exact e _ _ (by omega) k4,by rw[Nat.zero_add];exact e _ _ (by omega) k5,by rw[Nat.zero_add];exact e _ _ (by omega) k6⟩
structure HAt (Y : Nat -> Prop) (w : World) (hb bt bm bk n : Nat) (A : Option Addr) (cap : Nat) (h : HM) : Prop where
 blk:w.heap[hb]?=some (.cells (hC bt bm bk h.s.next h.s.closed h.flow A h.bs.length cap) 125 (0,0))
 maps:Maps3 w (Ds (YH Y hb A) w) bt bm bk n h.s
 row:BRow w (Ds (YH Y hb A) w) A cap h.bs
 yb:¬Y hb
 y1:¬YH Y hb A bt
 y2:¬YH Y hb A bm
 y3:¬YH Y hb A bk
 yr:∀r,rowOf A=some r->¬Y r/\r≠hb
 fine:PA h
 nn:n<=tot h.bs
 fl:h.flow.size<=maxLen
theorem HAt.lt (H:HAt Y w hb bt bm bk n A cap h):hb<w.heap.size:=(Array.getElem?_eq_some_iff.1 H.blk).1
theorem HAt.chg (H:HAt Y w hb bt bm bk n A cap h)(hc:Chg Y w w'):HAt Y w' hb bt bm bk n A cap h:=by
 have hl:Leads (Ds (YH Y hb A) w) (Ds (YH Y hb A) w'):=Dp hc.size fun b hb hx=>⟨hx,hc.block b hb fun e=>hx (.inl e)⟩
 exact⟨(hc.block hb H.lt H.yb).trans H.blk,⟨H.maps.tasks.keep (hc.block bt H.maps.tasks.lt fun e=>H.y1 (.inl e)) hl,H.maps.timers.keep (hc.block bm H.maps.timers.lt fun e=>H.y2 (.inl e)),H.maps.keys.keep (hc.block bk H.maps.keys.lt fun e=>H.y3 (.inl e))⟩,
  H.row.move (fun r hr=>hc.block r (H.row.row_lt r hr) (H.yr r hr).1) hl,H.yb,H.y1,H.y2,H.y3,H.yr,H.fine,H.nn,H.fl⟩
theorem HAt.later (H:HAt Y w hb bt bm bk n A cap h)(hb':Below w.heap.size w w'):HAt Y w' hb bt bm bk n A cap h:=H.chg (Chg.of_below hb')
theorem HAt.more (H:HAt Y w hb bt bm bk n A cap h)(hY:∀b,b<w.heap.size->Y' b->Y b):HAt Y' w hb bt bm bk n A cap h:=by
 have hl:Leads (Ds (YH Y hb A) w) (Ds (YH Y' hb A) w):=Dp (Nat.le_refl _) fun b hb hx=>⟨fun q=>hx (by rcases q with q|q;exact .inl (hY b hb q);exact .inr q),rfl⟩
 have hk:∀c,c<w.heap.size->¬YH Y hb A c->¬YH Y' hb A c:=fun c hc hx q=>hx (by rcases q with q|q;exact .inl (hY c hc q);exact .inr q)
 exact⟨H.blk,⟨H.maps.tasks.keep rfl hl,H.maps.timers.keep rfl,H.maps.keys.keep rfl⟩,H.row.move (fun _ _=>rfl) hl,fun q=>H.yb (hY hb H.lt q),hk bt H.maps.tasks.lt H.y1,hk bm H.maps.timers.lt H.y2,hk bk H.maps.keys.lt H.y3,fun r hr=>⟨fun q=>(H.yr r hr).1 (hY r (H.row.row_lt r hr) q),(H.yr r hr).2⟩,H.fine,H.nn,H.fl⟩
theorem HAt.batches (H:HAt Y w hb bt bm bk n A cap h):BtsIn w A cap h.bs:=H.row.read (Df _ _)
theorem at_last (l:List BT)(hp:0<l.length)(i:Nat)(hi:i=l.length-1)(h:i<l.length)(f:ByteArray)(s:ST):HM.at' ⟨f,l,s⟩=l[i].at':=by
 subst hi
 unfold HM.at'
 simp only
 rw[List.getLast?_eq_getElem?,List.getElem?_eq_getElem (by omega)]
theorem NA (H:HAt Y w hb bt bm bk n A cap h):Calls Tryz.prog 90 #[.pointer (some ⟨hb,0,none⟩)] w fun r w'=>r= .returned (.string h.flow)/\w'=w:=by
 obtain⟨c0,c1,c2,c3,c4,c5,c6,cf⟩:=FT H.blk
 clear H
 go_enter Tryz.func90,Tryz.ntmps90
 go_wp2_with fail
 go_ret
 exact⟨rfl,rfl⟩
theorem hat_any (H:HAt Y w hb bt bm bk n A cap h):Calls Tryz.prog 100 #[.pointer (some ⟨hb,0,none⟩)] w fun r w'=>r= .returned (.int .u64 (h.at':Nat))/\Below w.heap.size w w':=by
 obtain⟨c0,c1,c2,c3,c4,c5,c6,cf⟩:=FT H.blk
 have hbt:=H.batches
 have hl:=hbt.le
 have hcm:=hbt.cap_le
 simp only[maxLen] at hcm
 clear H
 obtain⟨f,l,s⟩:=h
 dsimp only at hbt hl c0 c1 c2 c3 c4 c5 c6 ⊢
 obtain⟨m,hm⟩:∃m,m=l.length:=⟨_,rfl⟩
 rw[<-hm] at c6 hl
 by_cases hp:0<m
 ·obtain ⟨b, off, rfl, hlt, h3⟩ := hbt.at_ (by omega)
  obtain⟨q,hq⟩:∃q,q=m-1:=⟨_,rfl⟩
  obtain⟨A',c',-,-,-,d0,d1,d2⟩:=h3 q (by omega)
  have HE:=Lib.hid (at_last l (by omega) q (by omega) (by omega) f s)
  have hm0:((m:Int)==0)=false:=by simp;omega
  have hqm:q<m:=by omega
  generalize l[q].at'=la at *
  rw[HE.out]
  subst hq
  clear hm h3 hbt d0 d2 c0 c1 c2 c3 c4 c5 HE
  go_enter Tryz.func100,Tryz.ntmps100
  go_upto_region 3 with fail
  go_region
  go_wp2_with fail
  go_ret
  exact⟨rfl,Da (Below.refl _ _)⟩
 ·obtain rfl : m = 0 := by omega
  have hl0:l= []:=List.eq_nil_of_length_eq_zero hm.symm
  subst hl0
  clear hbt hm hl hp hcm
  go_enter Tryz.func100,Tryz.ntmps100
  go_wp2_with fail
  go_ret
  exact⟨rfl,Below.refl _ _⟩
end Hi
namespace Cn
open Nm (Di Dk De)
open Vt (VT Rep BoxAt Da DX DY KidsAt Fy)
open Ev (EV Dj Db Dn EBox SJ zeroT take_drop tk ap rd1 rd2 Dh)
open Cm (rowOf EvsIn EvsAt EvNew FU Gr)
def DH (e:EV):Bool:= !e.valid
theorem Kt (args:Array Value)(w:World):(callFunc 97 args).run Tryz.prog w= .ok (.enter 97 args) w:=by kernel_rfl
theorem Q476.Y475 (h:p:=by
 have HV:=Lib.hid (Ev.GJ e W0 lo hi _ ⟨hf,vk,vn,vf,vs,A,m,c,rfl,hv.later (hb0.mono hz)⟩ (Nat.le_trans hz hb0.size))
 obtain⟨g0,g1,g2,g3,g4,g5,g6,g7,g8,g9,g10⟩:=EBox.cells hx0
 have HB0:=Lib.hid hb0
 clear hv hf hx0 hb0
 unfold Db at HV hW0 ⊢
 replace hW0:=Lib.hid hW0
 go_enter Tryz.func97,Tryz.ntmps97
 go_upto_region 1 with fail
 rw[<-hW0.out]
 go_wp2_with fail
 refine HV.out.mono ?_
 rintro x w1 ⟨rfl,hb1⟩
 have HB1:=Lib.hid (HB0.out.trans (hb1.mono HB0.out.size))
 clear hb1 g0 g1 g2 g3 g4 g5 g6 g7 g8 g9 g10
 go_wp2_with fail
 go_ret
 exact⟨De (by simp[DH]),HB1.out⟩):p:=h
theorem Ky (es:List EV):Asks 97 DH es:=by
 intro e _ lo hi vk vn vf vs A m c w hf hv hz
 open Q476 in exact M475
theorem NC {p:EV->Bool}{es:List EV}{i:Int}(h:Found p es i):decide (0<=i)=es.any p:=by
 rcases h with ⟨rfl,h⟩|⟨n,rfl,hn,hp,-⟩
 ·have:es.any p=false:=by
   rw[List.any_eq_false]
   intro e he
   obtain⟨m,hm,rfl⟩:=List.getElem_of_mem he
   simp[h m hm]
  rw[this];rfl
 ·have : es.any p = true := List.any_eq_true.2 ⟨_, List.getElem_mem hn, hp⟩
  rw[this];simp
theorem OK (g:Nat)(hcall:∀args w,(callFunc g args).run Tryz.prog w= .ok (.enter g args) w)(p:EV->Bool)(es:List EV)(hG:Asks g p es)(A:Option Addr)(cap:Nat)(w:World)(h:EvsIn w A cap es) :
  Calls Tryz.prog 96 #[.slice A es.length cap,.func (.func g) #[] #[]] w fun r w'=>r= .returned (.bool (es.any p))/\Below w.heap.size w w':=by
 have HI:=Lib.hid (Ny g hcall p es hG A cap w h)
 clear h hG
 go_enter Tryz.func96,Tryz.ntmps96
 go_wp2_with fail
 refine HI.out.mono ?_
 rintro x w1 ⟨i,rfl,hfound,hb1⟩
 have HB1:=Lib.hid hb1
 have HF:=Lib.hid (NC hfound)
 clear hb1 hfound
 go_wp2_with fail
 go_ret
 exact⟨De (by rw[<-HF.out]),HB1.out⟩
def Dy (f:ByteArray)(at':Nat)(es:List EV):Bool:= !f.toList.isEmpty&&decide (f.size<=1000)&&decide (at'<=9223372036854775807)&&decide (0<es.length)&& !es.any DH
theorem M127 (h:p:=by
 go_wp2_with fail
 go_ret
 exact⟨De (by unfold Dy;rw[decide_eq_false HN.out];simp),HBF.out⟩):p:=h
theorem Q554.Y553 (h:p:=by
 have hz0:W0.heap.size=w.heap.size+1:=by rw[hW0];simp
 have HC:=Lib.hid (OK 97 Kt DH es (Ky es) A cap W0 (h.later hb0))
 obtain⟨c0,c1,c2,-⟩:=hx0.cells
 have HX0:=Lib.hid hx0;have HB0:=Lib.hid hb0
 replace hW0:=Lib.hid hW0
 clear h hx0 hb0
 go_enter Tryz.func64,Tryz.ntmps64
 go_upto_region 1 with fail
 rw[<-hW0.out]
 go_upto_region 2 with (go_at_call 96;refine HC.out.mono ?_;rintro x w1 ⟨rfl,hb1⟩;have HB1:=Lib.hid hb1;obtain⟨d0,d1,d2,-⟩:=(HX0.out.later hb1 (by omega)).cells;clear hb1)
 clear c0 c1 c2
 have HBF:Hid (Below w.heap.size w w1):=Lib.hid (HB0.out.trans (HB1.out.mono HB0.out.size))
 generalize ha:es.any DH=any at *
 have HA:=Lib.hid ha;clear ha
 cases h1:f.toList.isEmpty with
 | true=>
  have H1:=Lib.hid h1
  go_wp2_with fail
  go_ret
  exact⟨De (by unfold Dy;rw[H1.out];rfl),HBF.out⟩
 | false=>
  have H1:=Lib.hid h1
  by_cases h2:f.size<=1000
  ·have g2 : decide ((f.size : Int) <= 1000) = true := by simp; omega
   by_cases h3:at'<=9223372036854775807
   ·have g3 : decide ((at' : Int) <= 9223372036854775807) = true := decide_eq_true (by omega)
    by_cases h4:0<es.length
    ·have g4 : decide ((0 : Int) < es.length) = true := decide_eq_true (by omega)
     have HN:=Lib.hid (And.intro h2 (And.intro h3 h4))
     clear h2 h3
     cases any with
     | true=>
      go_wp2_with fail
      go_ret
      exact⟨De (by unfold Dy;rw[HA.out];simp),HBF.out⟩
     | false=>
      go_wp2_with fail
      go_ret
      exact⟨De (by obtain⟨z1,z2,z3⟩:=HN.out;unfold Dy;rw[HA.out,H1.out,decide_eq_true z1,decide_eq_true z2,decide_eq_true z3];rfl),HBF.out⟩
    ·have g4 : decide ((0 : Int) < es.length) = false := decide_eq_false (by omega)
     have HN:=Lib.hid h4
     exact M127
   ·have g3 : decide ((at' : Int) <= 9223372036854775807) = false := decide_eq_false (by omega)
    have HN:=Lib.hid h3
    clear h3
    exact M127
  ·have g2 : decide ((f.size : Int) <= 1000) = false := by simp; omega
   have HN:=Lib.hid h2
   exact M127):p:=h
theorem M553 (h:p:=by
 obtain⟨W0,hW0⟩:∃W0,W0=w.alloc (.cells #[.string f,.int .u64 at',.slice A es.length cap] 64):=⟨_,rfl⟩
 have hx0:BB W0 w.heap.size f at' A es.length cap:=by rw[hW0];exact heap_alloc_new w _
 have hb0:Below w.heap.size w W0:=by rw[hW0];exact(Below.refl _ _).alloc (Nat.le_refl _) _
 exact Y553):p:=h
theorem ON (es:List EV)(f:ByteArray)(hfs:f.size<=maxLen)(at':Nat)(hat:at'<18446744073709551616)(A:Option Addr)(cap:Nat)(w:World)(h:EvsIn w A cap es) :
  Calls Tryz.prog 64 #[.agg #[.string f,.int .u64 at',.slice A es.length cap]] w fun r w'=>r= .returned (.bool (Dy f at' es))/\Below w.heap.size w w':=by
 simp only[maxLen] at hfs
 have hle:=h.le
 have hc:=h.cap_le
 simp only[maxLen] at hc
 open Q554 in exact M553
end Cn
end Go.Proofs.YtaahfiopdoinkaaGreat
