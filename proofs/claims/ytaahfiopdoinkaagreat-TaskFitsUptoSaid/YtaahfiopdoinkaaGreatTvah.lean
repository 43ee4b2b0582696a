/- What an event does to a state: a timer is armed. -/
import Derived.Test.YtaahfiopdoinkaaGreatTvae
import Derived.Test.YtaahfiopdoinkaaGreatTvad
import Derived.Test.YtaahfiopdoinkaaGreatTvab
import Derived.StillTailTactics
set_option maxRecDepth 100000
set_option maxHeartbeats 8000000
variable {p : Prop}
set_option linter.unusedVariables false
set_option linter.unusedSimpArgs false
open Go.RowKit
namespace Go.Proofs.YtaahfiopdoinkaaGreat
namespace Hi
open Nm (Dl De)
open Vt (VT Rep Da DU)
open Ev (EV Dj Db Dn take_drop tk ap rd1 rd2 Dg)
open Cm (EvsIn)
variable {X X' Y : Nat -> Prop} {u v w w' V V' : World} {b n : Nat} {ts : List TK} {l : List (Nat × Nat)} {ks : List ByteArray}
theorem M132 (h:p:=by
 go_upto_region 31 with fail
 go_still_tail 6,O2
 go_wp2_with fail
 go_ret
 exact⟨(Chg.of_below HB2.out).trans (Chg.of_below (Da (Below.refl _ _))),by rw[HX.out];rfl⟩):p:=h
theorem M141 (h:p:=by
 rw[hW3];show (W2.setCell _ _).heap[w.heap.size]?=_;exact(RowKit.Below.heap_setCell _ _ _ _ (by have:=HGL.out;show w.heap.size≠g;omega)).trans (HE.out W2 HQ2.out)):p:=h
theorem apply8 (g bt bm bk:Nat)(s:ST)(h:SAt Y w g bt bm bk n s)(e:EV)(he:FV e)(hk:e.k=8)(vk vn:Int)(vf:Nat)(vs:ByteArray)(A:Option Addr)(m c:Nat)(now:Nat)(alone:Bool)(hn:n<17592186044416)(hx:s.next<1152921504606846976)(hf:GX s) :
  Calls Tryz.prog 103 #[.pointer (some ⟨g,0,none⟩),.agg (Db e vk vn vf vs A m c),.int .u64 (now:Nat),.bool alone] w (Sj Y w g bt bm bk n (Dc now alone e s)):=by
 obtain⟨k,id,en,at',name,text,ev⟩:=e
 obtain rfl:k=8:=hk
 have hi:=he.f.i1
 dsimp only at hi
 have HF:=U hf
 obtain⟨yi,yn,yk,yv,yf,ys,yA,ym,yc,yN,yb,ya,okb,hl⟩:=h.maps.tasks.any id hi
 have HL:Hid (∀W,W.heap[bt]?=w.heap[bt]?->(Instr.lookup 119 (.map (some bt)) (.int .u64 (id:Nat)) true).run Tryz.prog W= .ok (.tuple #[.agg #[.int .u64 (yi:Nat),.string yn,.int .i64 yk,.int .i64 yv,.float .f64 yf,.string ys,.slice yA ym yc,.int .i64 yN,.bool yb,.int .u64 (ya:Nat)],.bool okb]) W):=U hl
 clear hl
 obtain⟨W1,hW1⟩:=Rv (w.alloc (.cells (Db ⟨8,id,en,at',name,text,ev⟩ vk vn vf vs A m c) 61))
 have hb1:Below w.heap.size w W1:=by rw[hW1];exact Ru
 have hz1:W1.heap.size=w.heap.size+1:=by rw[hW1];simp
 have hx1:Ev.EBox W1 w.heap.size (Db ⟨8,id,en,at',name,text,ev⟩ vk vn vf vs A m c):=by rw[hW1];exact heap_alloc_new _ _
 have hgl:g<w.heap.size:=(Array.getElem?_eq_some_iff.1 h.blk).1
 have HE:Hid (∀W,Below W1.heap.size W1 W->Ev.EBox W w.heap.size (Db ⟨8,id,en,at',name,text,ev⟩ vk vn vf vs A m c)):=U fun W hW=>(hW.block _ O0).trans hx1
 have HST:Hid (∀W,Below W1.heap.size W1 W->SAt Y W g bt bm bk n s):=U fun W hW=>h.later (hb1.trans (hW.mono hb1.size))
 have KS:Hid (∀W,Below W1.heap.size W1 W->(fun W=>W.cell? ⟨g,0,none⟩=some (.map (some bt))/\W.cell? ⟨w.heap.size,1,none⟩=some (.int .u64 (id:Nat))/\(Instr.lookup 119 (.map (some bt)) (.int .u64 (id:Nat)) true).run Tryz.prog W= .ok (.tuple #[.agg #[.int .u64 (yi:Nat),.string yn,.int .i64 yk,.int .i64 yv,.float .f64 yf,.string ys,.slice yA ym yc,.int .i64 yN,.bool yb,.int .u64 (ya:Nat)],.bool okb]) W) W):=U fun W hW=>⟨(DE (HST.out W hW).blk).1,(Ev.EBox.cells (HE.out W hW)).2.1,HL.out W ((hb1.trans (hW.mono hb1.size)).block _ h.maps.tasks.lt)⟩
 obtain⟨W2,hW2⟩:=Rv ((W1.alloc (.cells #[.int .u64 (yi:Nat),.string yn,.int .i64 yk,.int .i64 yv,.float .f64 yf,.string ys,.slice yA ym yc,.int .i64 yN,.bool yb,.int .u64 (ya:Nat)] 36)).drew)
 have hq2:Below W1.heap.size W1 W2:=by rw[hW2];exact Da Ru
 have hz2:W2.heap.size=w.heap.size+2:=by rw[hW2];simp[hz1]
 have ht2:W2.heap[W1.heap.size]?=some (.cells #[.int .u64 (yi:Nat),.string yn,.int .i64 yk,.int .i64 yv,.float .f64 yf,.string ys,.slice yA ym yc,.int .i64 yN,.bool yb,.int .u64 (ya:Nat)] 36 (0,0)):=by rw[hW2];exact heap_alloc_new _ _
 have HB2:=U (hb1.trans (hq2.mono hb1.size));have HQ2:=U hq2;have HZ1:=U hz1;have HZ2:=U hz2;have HT2:=U ht2;have HGL:=U hgl
 have H0:=U h
 have HBW:=U hb1
 have HSW:Hid (∀W,Below W1.heap.size W1 W->∀y,W1.heap.size<=y->Below W1.heap.size W1 W):=U fun W hW _ _=>hW
 unfold Db at hW1
 replace hW1:=U hW1;replace hW2:=U hW2
 clear h hb1 hx1 hq2 ht2 hgl hz1 hz2 HL
 unfold Db
 go_enter Tryz.func103,Tryz.ntmps103
 go_upto_region 1 with fail
 rw[<-hW1.out]
 refine wp_region_noPanic ?_
 refine wp_region_held_drew (S:=(fun W=>W.cell? ⟨g,0,none⟩=some (.map (some bt))/\W.cell? ⟨w.heap.size,1,none⟩=some (.int .u64 (id:Nat))/\(Instr.lookup 119 (.map (some bt)) (.int .u64 (id:Nat)) true).run Tryz.prog W= .ok (.tuple #[.agg #[.int .u64 (yi:Nat),.string yn,.int .i64 yk,.int .i64 yv,.float .f64 yf,.string ys,.slice yA ym yc,.int .i64 yN,.bool yb,.int .u64 (ya:Nat)],.bool okb]) W)) O2 ?_ (fun hHeld=> ?_)
 ·exact M58
 refine tk 0 rfl ?_
 refine tk 1 rfl ?_
 refine tk 2 rfl ?_
 refine tk 3 rfl ?_
 refine tk 4 rfl ?_
 refine tk 5 rfl ?_
 refine tk 6 rfl ?_
 refine tk 7 rfl ?_
 refine tk 8 rfl ?_
 refine tk 9 rfl ?_
 refine rd1 10 rfl fun K hK=> ?_
 go_simp
 refine hK.out _ _ (KS.out _ ((Da (Below.refl _ _)).alloc (Nat.le_refl _) _)) (fun hHeld2=> ?_)
 clear hK K hHeld
 try simp only[ap]
 refine rd1 11 rfl fun K hK=> ?_
 go_simp
 refine hK.out _ _ (KS.out _ (Da Ru)) (fun hHeld3=> ?_)
 clear hK K hHeld2
 try simp only[ap]
 refine rd1 12 rfl fun K hK=> ?_
 go_simp
 refine hK.out _ _ (KS.out _ (Da Ru)) (fun hHeld4=> ?_)
 clear hK K hHeld3
 try simp only[ap]
 refine wpAnyH_done O2 ?_ _
 refine NoPanic.normal ?_
 clear hHeld4
 rw[<-hW2.out]
 have h:=HST.out W2 HQ2.out
 obtain⟨c0,c1,c2,c3,c4,f0,f1,f2,f3,f4⟩:=DE h.blk
 obtain⟨e0,e1,e2,e3,e4,e5,e6,e7,e8,e9,e10⟩:=Ev.EBox.cells (HE.out W2 HQ2.out)
 dsimp only at e0 e1 e2 e3 e4 e5
 obtain⟨t0,t1,t2,t3,t4,t5,t6,t7,t8,t9,tf⟩:=Fe HT2.out
 by_cases hid2:id=s.next
 rotate_left
 ·have kid : ((id : Int) != (s.next : Int)) = true := by simp; omega
  have HX:Hid (Dc now alone ⟨8,id,en,at',name,text,ev⟩ s=none):=U (by simp[Dc,hid2])
  exact M132
 have kid:((id:Int) != (s.next:Int))=false:=by simp;omega
 have HID:=U hid2
 obtain⟨h3',hc3⟩:=h.cell 3 (.int .u64 ((s.next:Int)+1)) {s with next:=s.next+1} rfl rfl rfl rfl
 have h3:=h3'.later (Da (Below.refl _ _))
 obtain⟨W3,hW3⟩:=Rv ((W2.setCell ⟨g,3,none⟩ (.int .u64 ((s.next:Int)+1))).drew)
 replace hc3:=hc3.trans (Chg.of_below (X:=XS g bt bm bk) (Da (Below.refl _ _)))
 clear h3'
 rw[<-hW3] at h3 hc3
 have HC3:=U ((Chg.of_below HB2.out).trans hc3)
 have hz3:W3.heap.size=W2.heap.size:=by rw[hW3];simp[World.setCell,World.drew]
 have hx3:Ev.EBox W3 w.heap.size (Db ⟨8,id,en,at',name,text,ev⟩ vk vn vf vs A m c):=by
  exact M141
 have HX3:=U hx3;have H3:=U h3;have HZ3:=U hz3
 clear hid2 hc3 hx3 h3 hz3
 go_upto_region 31 with fail
 go_still_tail 6,O2
 go_upto_region 34 with fail
 rw[<-hW3]
 replace hW3:=U hW3
 clear h c0 c1 c2 c3 c4 f0 f1 f2 f3 f4 e0 e1 e2 e3 e4 e5 e6 e7 e8 e9 e10 t0 t1 t2 t3 t4 t5 t6 t7 t8 t9 tf
 have h:=H3.out
 obtain⟨c0,c1,c2,c3,c4,f0,f1,f2,f3,f4⟩:=DE h.blk
 obtain⟨e0,e1,e2,e3,e4,e5,e6,e7,e8,e9,e10⟩:=Ev.EBox.cells HX3.out
 dsimp only at e0 e1 e2 e3 e4 e5
 obtain⟨wd,hput,hmd,hturn⟩:=(h.later (Da (Below.refl _ _))).maps.timers.put (by simp only[maxLen];omega) (id,at') hi (l':=s.timers++ [(id,at')]) (fun q=>Nu (Nv fun t ht=>by have:=HF.out.belowT t ht;have:=HID.out;show t.1≠id;omega) q)
 obtain⟨hsd,hcd⟩:=(h.later (Da (Below.refl _ _))).turnM hturn hmd (Nat.le_succ _)
 have hput':(Instr.mapUpdate 120 (.map (some bm)) (.int .u64 (id:Nat)) (.agg #[.int .u64 (id:Nat),.int .u64 (at':Nat)])).run Tryz.prog W3.drew= .ok () wd:=hput
 have hxd:Ev.EBox wd w.heap.size (Db ⟨8,id,en,at',name,text,ev⟩ vk vn vf vs A m c):=
  (hturn.grown.block w.heap.size (by show w.heap.size<W3.heap.size;have:=HZ3.out;have:=HZ2.out;omega) (fun e=>by injection e with e;have:=H0.out.maps.timers.lt;omega)).trans HX3.out
 obtain⟨-,-,-,x3,-,-,-,-,-,-,-⟩:=Ev.EBox.cells hxd
 dsimp only at x3
 have HSD:=U hsd;have HCD:=U ((HC3.out.trans (Chg.of_below (Da (Below.refl _ _)))).trans hcd)
 clear hsd hcd hmd hturn hput hxd
 go_upto_region 35 with fail
 go_still_tail 11,O2
 by_cases hle:now<=at'
 ·have kle : decide (now <= at') = true := decide_eq_true hle
  have HX:Hid (Dc now alone ⟨8,id,en,at',name,text,ev⟩ s=some {s with timers:=s.timers++ [(id,at')],next:=s.next+1}):=U (by simp[Dc,HID.out,hle])
  clear hle
  go_wp2_with fail
  go_ret
  exact⟨HCD.out,by rw[HX.out];exact⟨rfl,HSD.out⟩⟩
 ·have kle : decide (now <= at') = false := decide_eq_false hle
  have HX:Hid (Dc now alone ⟨8,id,en,at',name,text,ev⟩ s=none):=U (by simp[Dc,hle])
  clear hle
  exact M144
theorem M109 (h:p:=by
 refine⟨HCD.out,?_⟩
 rw[HX]
 cases alone with
 | true=>exact⟨rfl,HSD.out.mono (Nat.le_succ _)⟩
 | false=>rfl):p:=h
theorem M345 (h:p:=by
 rw[<-hW3] at h3 hc3
 obtain⟨w4,hclr,hm4,hturn4⟩:=h3.maps.tasks.clear 0
 obtain⟨h4,hc4⟩:=h3.turnT hturn4 (hm4.mono (Nat.zero_le n)) (Nat.le_refl _)
 obtain⟨w5,hclr5,hm5,hturn5⟩:=h4.maps.timers.clear 0
 obtain⟨h5,hc5⟩:=h4.turnM hturn5 (hm5.mono (Nat.zero_le n)) (Nat.le_refl _)
 have HSD:=U h5;have HCD:=U ((((Chg.of_below HB2.out).trans hc3).trans hc4).trans hc5)
 obtain⟨i0,i1,i2,i3,i4,-,-,-,-,-⟩:=DE h4.blk
 obtain⟨j0,j1,j2,j3,j4,-,-,-,-,-⟩:=DE h3.blk
 clear h3 hc3 hm4 hturn4 h4 hc4 hm5 hturn5 h5 hc5
 go_upto_region 39 with fail
 rw[<-hW3]
 replace hW3:=U hW3
 clear h c0 c1 c2 c3 c4 f0 f1 f2 f3 f4 e0 e1 e2 e3 e4 e5 e6 e7 e8 e9 e10 t0 t1 t2 t3 t4 t5 t6 t7 t8 t9 tf
 go_wp2_with fail
 go_ret
 exact Y345):p:=h
theorem Q346.Y345 (h:p:=by
 have HX:Dc now alone ⟨9,id,en,at',name,text,ev⟩ s=if alone=true then some {s with closed:=9,tasks:=[],timers:=[]} else none:=by simp[Dc]
 exact M109):p:=h
theorem Q209.Y204 (h:p:=by
 obtain⟨h3,hc3⟩:=h.cell 4 (.int .i64 9) {s with closed:=9} rfl rfl rfl rfl
 obtain⟨W3,hW3⟩:=Rv (W2.setCell ⟨g,4,none⟩ (.int .i64 9))
 open Q346 in exact M345):p:=h
theorem Q407.Y399 (h:p:=by
 have hx1:Ev.EBox W1 w.heap.size (Db ⟨9,id,en,at',name,text,ev⟩ vk vn vf vs A m c):=by rw[hW1];exact heap_alloc_new _ _
 have hgl:g<w.heap.size:=(Array.getElem?_eq_some_iff.1 h.blk).1
 have HE:Hid (∀W,Below W1.heap.size W1 W->Ev.EBox W w.heap.size (Db ⟨9,id,en,at',name,text,ev⟩ vk vn vf vs A m c)):=U fun W hW=>(hW.block _ O0).trans hx1
 open Q209 in exact KJ):p:=h
theorem Q277.Y269 (h:p:=by
 obtain⟨W1,hW1⟩:=Rv (w.alloc (.cells (Db ⟨9,id,en,at',name,text,ev⟩ vk vn vf vs A m c) 61))
 open Q407 in exact Va):p:=h
theorem apply9 (g bt bm bk:Nat)(s:ST)(h:SAt Y w g bt bm bk n s)(e:EV)(he:FV e)(hk:e.k=9)(vk vn:Int)(vf:Nat)(vs:ByteArray)(A:Option Addr)(m c:Nat)(now:Nat)(alone:Bool) :
  Calls Tryz.prog 103 #[.pointer (some ⟨g,0,none⟩),.agg (Db e vk vn vf vs A m c),.int .u64 (now:Nat),.bool alone] w (Sj Y w g bt bm bk n (Dc now alone e s)):=by
 obtain⟨k,id,en,at',name,text,ev⟩:=e
 obtain rfl:k=9:=hk
 have hi:=he.f.i1
 dsimp only at hi
 obtain⟨yi,yn,yk,yv,yf,ys,yA,ym,yc,yN,yb,ya,okb,hl⟩:=h.maps.tasks.any id hi
 open Q277 in exact Vq
theorem Q347.Y345 (h:p:=by
 have HX:Dc now alone ⟨10,id,en,at',name,text,ev⟩ s=if alone=true then some {s with closed:=10,tasks:=[],timers:=[]} else none:=by simp[Dc]
 exact M109):p:=h
theorem Q210.Y204 (h:p:=by
 obtain⟨h3,hc3⟩:=h.cell 4 (.int .i64 10) {s with closed:=10} rfl rfl rfl rfl
 obtain⟨W3,hW3⟩:=Rv (W2.setCell ⟨g,4,none⟩ (.int .i64 10))
 open Q347 in exact M345):p:=h
theorem Q408.Y399 (h:p:=by
 have hx1:Ev.EBox W1 w.heap.size (Db ⟨10,id,en,at',name,text,ev⟩ vk vn vf vs A m c):=by rw[hW1];exact heap_alloc_new _ _
 have hgl:g<w.heap.size:=(Array.getElem?_eq_some_iff.1 h.blk).1
 have HE:Hid (∀W,Below W1.heap.size W1 W->Ev.EBox W w.heap.size (Db ⟨10,id,en,at',name,text,ev⟩ vk vn vf vs A m c)):=U fun W hW=>(hW.block _ O0).trans hx1
 open Q210 in exact KJ):p:=h
theorem Q278.Y269 (h:p:=by
 obtain⟨W1,hW1⟩:=Rv (w.alloc (.cells (Db ⟨10,id,en,at',name,text,ev⟩ vk vn vf vs A m c) 61))
 open Q408 in exact Va):p:=h
theorem apply10 (g bt bm bk:Nat)(s:ST)(h:SAt Y w g bt bm bk n s)(e:EV)(he:FV e)(hk:e.k=10)(vk vn:Int)(vf:Nat)(vs:ByteArray)(A:Option Addr)(m c:Nat)(now:Nat)(alone:Bool) :
  Calls Tryz.prog 103 #[.pointer (some ⟨g,0,none⟩),.agg (Db e vk vn vf vs A m c),.int .u64 (now:Nat),.bool alone] w (Sj Y w g bt bm bk n (Dc now alone e s)):=by
 obtain⟨k,id,en,at',name,text,ev⟩:=e
 obtain rfl:k=10:=hk
 have hi:=he.f.i1
 dsimp only at hi
 obtain⟨yi,yn,yk,yv,yf,ys,yA,ym,yc,yN,yb,ya,okb,hl⟩:=h.maps.tasks.any id hi
 open Q278 in exact Vq
theorem Q348.Y345 (h:p:=by
 have HX:Dc now alone ⟨11,id,en,at',name,text,ev⟩ s=if alone=true then some {s with closed:=11,tasks:=[],timers:=[]} else none:=by simp[Dc]
 exact M109):p:=h
theorem Q211.Y204 (h:p:=by
 obtain⟨h3,hc3⟩:=h.cell 4 (.int .i64 11) {s with closed:=11} rfl rfl rfl rfl
 obtain⟨W3,hW3⟩:=Rv (W2.setCell ⟨g,4,none⟩ (.int .i64 11))
 open Q348 in exact M345):p:=h
theorem Q409.Y399 (h:p:=by
 have hx1:Ev.EBox W1 w.heap.size (Db ⟨11,id,en,at',name,text,ev⟩ vk vn vf vs A m c):=by rw[hW1];exact heap_alloc_new _ _
 have hgl:g<w.heap.size:=(Array.getElem?_eq_some_iff.1 h.blk).1
 have HE:Hid (∀W,Below W1.heap.size W1 W->Ev.EBox W w.heap.size (Db ⟨11,id,en,at',name,text,ev⟩ vk vn vf vs A m c)):=U fun W hW=>(hW.block _ O0).trans hx1
 open Q211 in exact KJ):p:=h
theorem Q279.Y269 (h:p:=by
 obtain⟨W1,hW1⟩:=Rv (w.alloc (.cells (Db ⟨11,id,en,at',name,text,ev⟩ vk vn vf vs A m c) 61))
 open Q409 in exact Va):p:=h
theorem apply11 (g bt bm bk:Nat)(s:ST)(h:SAt Y w g bt bm bk n s)(e:EV)(he:FV e)(hk:e.k=11)(vk vn:Int)(vf:Nat)(vs:ByteArray)(A:Option Addr)(m c:Nat)(now:Nat)(alone:Bool) :
  Calls Tryz.prog 103 #[.pointer (some ⟨g,0,none⟩),.agg (Db e vk vn vf vs A m c),.int .u64 (now:Nat),.bool alone] w (Sj Y w g bt bm bk n (Dc now alone e s)):=by
 obtain⟨k,id,en,at',name,text,ev⟩:=e
 obtain rfl:k=11:=hk
 have hi:=he.f.i1
 dsimp only at hi
 obtain⟨yi,yn,yk,yv,yf,ys,yA,ym,yc,yN,yb,ya,okb,hl⟩:=h.maps.tasks.any id hi
 open Q279 in exact Vq
theorem Q682.Y681 (h:p:=by
 obtain⟨t0,t1,t2,t3,t4,t5,t6,t7,t8,t9,tf⟩:=Fe HT3.out
 go_upto_region 15 with fail
 exact M181):p:=h
theorem M6 (h:p:=by
 obtain⟨W3,hW3⟩:=Rv ((((W2.setCell ⟨W1.heap.size,7,none⟩ (.int .i64 en)).setCell ⟨W1.heap.size,9,none⟩ (.int .u64 (at':Nat))).setCell ⟨W1.heap.size,8,none⟩ (.bool true)).drew)
 have hq3:Below W1.heap.size W1 W3:=by rw[hW3];exact Da ((((HQ2.out).setCell (Nat.le_refl _) _).setCell (Nat.le_refl _) _).setCell (Nat.le_refl _) _)
 have ht3:W3.heap[W1.heap.size]?=some (.cells #[.int .u64 (yi:Nat),.string yn,.int .i64 yk,.int .i64 yv,.float .f64 yf,.string ys,.slice yA ym yc,.int .i64 en,.bool true,.int .u64 (at':Nat)] 36 (0,0)):=by
  have:=HT2.out
  rw[hW3];show (((W2.setCell ⟨W1.heap.size,7,none⟩ (.int .i64 en)).setCell ⟨W1.heap.size,9,none⟩ (.int .u64 (at':Nat))).setCell ⟨W1.heap.size,8,none⟩ (.bool true)).heap[W1.heap.size]?=_;simp[World.setCell,Array.getElem?_modify,this]
 have h3:=HST.out W3 hq3
 have hdw:Below W1.heap.size W1 W3.drew:=Da hq3
 obtain⟨wd,hput,-⟩:=(HST.out W3.drew hdw).maps.tasks.raw (by simp only[maxLen];omega) id hi (.agg #[.int .u64 (yi:Nat),.string yn,.int .i64 yk,.int .i64 yv,.float .f64 yf,.string ys,.slice yA ym yc,.int .i64 en,.bool true,.int .u64 (at':Nat)])
 have HH3:=U h3;have HT3:=U ht3;have HQ3:=U hq3
 have HFIN:Hid (Below w.heap.size w W3.drew):=U (HBW.out.trans (hdw.mono HBW.out.size))
 replace hW3:=U hW3
 clear h3 ht3 hq3 hdw
 go_upto_region 14 with fail
 refine wp_region_noPanic ?_
 refine wp_region_held_drew (S:=(fun W=>W.cell? ⟨w.heap.size,2,none⟩=some (.int .i64 en)/\W.cell? ⟨w.heap.size,3,none⟩=some (.int .u64 (at':Nat)))) O2 ?_ (fun hHeld=> ?_)
 ·exact KS14.out _ (Da (HQ2.out))
 refine tk 0 rfl ?_
 refine tk 1 rfl ?_
 refine tk 2 rfl ?_
 refine tk 3 rfl ?_
 refine tk 4 rfl ?_
 refine rd1 5 rfl fun K hK=> ?_
 go_simp
 refine hK.out _ _ (KS14.out _ (Da ((HQ2.out).setCell (Nat.le_refl _) _))) (fun hHeld0=> ?_)
 clear hK K hHeld
 try simp only[ap]
 refine tk 6 rfl ?_
 refine rd1 7 rfl fun K hK=> ?_
 go_simp
 refine hK.out _ _ (KS14.out _ (Da (((HQ2.out).setCell (Nat.le_refl _) _).setCell (Nat.le_refl _) _))) (fun hHeld1=> ?_)
 clear hK K hHeld0
 try simp only[ap]
 refine tk 8 rfl ?_
 refine rd1 9 rfl fun K hK=> ?_
 go_simp
 refine hK.out _ _ (KS14.out _ (Da ((((HQ2.out).setCell (Nat.le_refl _) _).setCell (Nat.le_refl _) _).setCell (Nat.le_refl _) _))) (fun hHeld2=> ?_)
 clear hK K hHeld1
 try simp only[ap]
 refine wpAnyH_done O2 ?_ _
 refine NoPanic.normal ?_
 clear hHeld2
 open Q682 in exact M681):p:=h
theorem Q208.Y204 (h:p:=by
 have KS14:Hid (∀W,Below W1.heap.size W1 W->(fun W=>W.cell? ⟨w.heap.size,2,none⟩=some (.int .i64 en)/\W.cell? ⟨w.heap.size,3,none⟩=some (.int .u64 (at':Nat))) W):=U fun W hW=>by
  obtain⟨-,-,e2,e3,-⟩:=Ev.EBox.cells (HE.out W hW)
  exact⟨e2,e3⟩
 have hwr:IntKind.i64.wrap (yN+1)=yN+1:=IntWalk.i64_in _ O0
 cases okb with
 | false=>
  exact M6
 | true=>
  cases yb with
  | true=>
   exact M6
  | false=>
   by_cases q3:yN+1=en
   ·have k3 : decide (yN + 1 = en) = true := decide_eq_true q3
    by_cases q4:ya<=now
    ·have k4 : decide (ya <= now) = true := decide_eq_true q4
     by_cases q5:now<=at'
     ·have k5 : decide (now <= at') = true := decide_eq_true q5
      cases alone with
      | true=>
       exact M6
      | false=>
       exact M6
     ·have k5 : decide (now <= at') = false := decide_eq_false q5
      exact M6
    ·have k4 : decide (ya <= now) = false := decide_eq_false q4
     exact M6
   ·have k3 : decide (yN + 1 = en) = false := decide_eq_false q3
    exact M6):p:=h
theorem Q410.Y399 (h:p:=by
 have hx1:Ev.EBox W1 w.heap.size (Db ⟨2,id,en,at',name,text,ev⟩ vk vn vf vs A m c):=by rw[hW1];exact heap_alloc_new _ _
 have hgl:g<w.heap.size:=(Array.getElem?_eq_some_iff.1 h.blk).1
 have HE:Hid (∀W,Below W1.heap.size W1 W->Ev.EBox W w.heap.size (Db ⟨2,id,en,at',name,text,ev⟩ vk vn vf vs A m c)):=U fun W hW=>(hW.block _ O0).trans hx1
 open Q208 in exact KJ):p:=h
theorem Q274.Y269 (h:p:=by
 obtain⟨W1,hW1⟩:=Rv (w.alloc (.cells (Db ⟨2,id,en,at',name,text,ev⟩ vk vn vf vs A m c) 61))
 open Q410 in exact Va):p:=h
theorem Ku (g bt bm bk:Nat)(s:ST)(h:SAt Y w g bt bm bk n s)(hn:n<17592186044416)(e:EV)(he:FV e)(hk:e.k=2)(vk vn:Int)(vf:Nat)(vs:ByteArray)(A:Option Addr)(m c:Nat)(now:Nat)(alone:Bool)(yi:Nat)(yn:ByteArray)(yk yv:Int)(yf:Nat)(ys:ByteArray)(yA:Option Addr)(ym yc:Nat)(yN:Int)(yb:Bool)(ya:Nat)(okb:Bool)(hN0:0<=yN)(hN1:yN<=2147483647)(hl:∀W:World,W.heap[bt]?=w.heap[bt]?->(Instr.lookup 119 (.map (some bt)) (.int .u64 (e.id:Nat)) true).run Tryz.prog W= .ok (.tuple #[.agg #[.int .u64 (yi:Nat),.string yn,.int .i64 yk,.int .i64 yv,.float .f64 yf,.string ys,.slice yA ym yc,.int .i64 yN,.bool yb,.int .u64 (ya:Nat)],.bool okb]) W) :
  Calls Tryz.prog 103 #[.pointer (some ⟨g,0,none⟩),.agg (Db e vk vn vf vs A m c),.int .u64 (now:Nat),.bool alone] w fun r w'=>r= .returned (.bool (okb&& !yb&&decide (yN+1=e.n)&&decide (ya<=now)&&decide (now<=e.at')&&alone))/\∃W3,Below w.heap.size w W3/\(Instr.mapUpdate 119 (.map (some bt)) (.int .u64 (e.id:Nat)) (.agg #[.int .u64 (yi:Nat),.string yn,.int .i64 yk,.int .i64 yv,.float .f64 yf,.string ys,.slice yA ym yc,.int .i64 e.n,.bool true,.int .u64 (e.at':Nat)])).run Tryz.prog W3= .ok () w':=by
 obtain⟨k,id,en,at',name,text,ev⟩:=e
 obtain rfl:k=2:=hk
 have hi:=he.f.i1
 dsimp only at hi
 have hn1:=he.n0;have hn2:=he.n1
 dsimp only at hn1 hn2 hl ⊢
 open Q274 in exact Vq
theorem apply2 (g bt bm bk:Nat)(s:ST)(h:SAt Y w g bt bm bk n s)(e:EV)(he:FV e)(hk:e.k=2)(vk vn:Int)(vf:Nat)(vs:ByteArray)(A:Option Addr)(m c:Nat)(now:Nat)(alone:Bool)(hn:n<17592186044416) :
  Calls Tryz.prog 103 #[.pointer (some ⟨g,0,none⟩),.agg (Db e vk vn vf vs A m c),.int .u64 (now:Nat),.bool alone] w (Sj Y w g bt bm bk n (Dc now alone e s)):=by
 have hi:=he.f.i1
 obtain⟨yi,yn,yk,yv,yf,ys,yA,ym,yc,yN,yb,ya,okb,hl,hyN,hdec⟩:=h.maps.tasks.any2 e.id hi
 refine(Ku g bt bm bk s h hn e he hk vk vn vf vs A m c now alone yi yn yk yv yf ys yA ym yc yN yb ya okb hyN.1 hyN.2 hl).mono ?_
 rintro r w' ⟨rfl,W3,hb,hr⟩
 refine⟨XK h hn hb hi hr,?_⟩
 rcases hdec with ⟨rfl,hno⟩|⟨rfl,t,h1,h0,h2,h3,h4,hrep⟩
 ·have hX : Dc now alone e s = none := by simp [Dc, hk, hno]
  rw[hX];rfl
 ·by_cases hc : t.fl = false /\ t.n + 1 = e.n /\ t.at' <= now /\ now <= e.at' /\ alone = true
  ·have hX : Dc now alone e s = some { s with tasks := DV s.tasks { t with n := e.n, at' := e.at', fl := true } } := by simp [Dc, hk, h1, hc]
   rw[hX]
   obtain⟨c1,c2,c3,c4,c5⟩:=hc
   refine⟨Nm.De (by simp[<-h2, <-h3, <-h4,c1,c2,c3,c4,c5]),?_⟩
   exact(XJ (t:={t with n:=e.n,at':=e.at',fl:=true}) h hn hb (h0 ▸ h1) (hrep e.n true e.at' he.n0 he.n1 he.f.a1) (by rw[show ({t with n:=e.n,at':=e.at',fl:=true}:TK).id=e.id from h0];exact hr)).2
  ·have hX : Dc now alone e s = none := by simp only [Dc, hk, h1, if_true, if_neg hc]
   rw[hX]
   refine Nm.De (Bool.eq_false_iff.2 fun q=>hc ?_)
   simp only[Bool.and_eq_true,Bool.not_eq_true',decide_eq_true_eq,Bool.true_and] at q
   obtain⟨⟨⟨⟨q1,q2⟩,q3⟩,q4⟩,q5⟩:=q
   exact⟨h3.trans q1,by rw[h2];exact q2,by rw[h4];exact q3,q4,q5⟩
theorem apply7 (g bt bm bk:Nat)(s:ST)(h:SAt Y w g bt bm bk n s)(e:EV)(he:FV e)(hk:e.k=7)(vk vn:Int)(vf:Nat)(vs:ByteArray)(A:Option Addr)(m c:Nat)(now:Nat)(alone:Bool)(hn:n<17592186044416)(hx:s.next<1152921504606846976)(hf:GX s)(hY:∀b,Y b->b<w.heap.size)(lo hi':Nat)(hv:Rep w lo hi' e.v (Dn vk vn vf vs A m c))(hhi:hi'<=w.heap.size)(hlow:hi'<=g/\hi'<=bt/\hi'<=bm/\hi'<=bk)(hnow:now<18446744073709551616) :
  Calls Tryz.prog 103 #[.pointer (some ⟨g,0,none⟩),.agg (Db e vk vn vf vs A m c),.int .u64 (now:Nat),.bool alone] w (Sj Y w g bt bm bk n (Dc now alone e s)):=by
 obtain⟨k,id,en,at',name,text,ev⟩:=e
 obtain rfl:k=7:=hk
 have hi:=he.f.i1
 dsimp only at hi
 have hsl:=he.slim
 have hs1:=he.f.s1
 dsimp only at hsl hs1
 have HF:=U hf;have HYY:=U hY;have HV0:=U hv;have HLW:=U hlow
 clear hY hv hlow
 obtain⟨yi,yn,yk,yv,yf,ys,yA,ym,yc,yN,yb,ya,okb,hl⟩:=h.maps.tasks.any id hi
 have HL:Hid (∀W,W.heap[bt]?=w.heap[bt]?->(Instr.lookup 119 (.map (some bt)) (.int .u64 (id:Nat)) true).run Tryz.prog W= .ok (.tuple #[.agg #[.int .u64 (yi:Nat),.string yn,.int .i64 yk,.int .i64 yv,.float .f64 yf,.string ys,.slice yA ym yc,.int .i64 yN,.bool yb,.int .u64 (ya:Nat)],.bool okb]) W):=U hl
 clear hl
 obtain⟨W1,hW1⟩:=Rv (w.alloc (.cells (Db ⟨7,id,en,at',name,text,ev⟩ vk vn vf vs A m c) 61))
 have hb1:Below w.heap.size w W1:=by rw[hW1];exact Ru
 have hz1:W1.heap.size=w.heap.size+1:=by rw[hW1];simp
 have hx1:Ev.EBox W1 w.heap.size (Db ⟨7,id,en,at',name,text,ev⟩ vk vn vf vs A m c):=by rw[hW1];exact heap_alloc_new _ _
 have hgl:g<w.heap.size:=(Array.getElem?_eq_some_iff.1 h.blk).1
 have HE:Hid (∀W,Below W1.heap.size W1 W->Ev.EBox W w.heap.size (Db ⟨7,id,en,at',name,text,ev⟩ vk vn vf vs A m c)):=U fun W hW=>(hW.block _ O0).trans hx1
 have HST:Hid (∀W,Below W1.heap.size W1 W->SAt Y W g bt bm bk n s):=U fun W hW=>h.later (hb1.trans (hW.mono hb1.size))
 have KS:Hid (∀W,Below W1.heap.size W1 W->(fun W=>W.cell? ⟨g,0,none⟩=some (.map (some bt))/\W.cell? ⟨w.heap.size,1,none⟩=some (.int .u64 (id:Nat))/\(Instr.lookup 119 (.map (some bt)) (.int .u64 (id:Nat)) true).run Tryz.prog W= .ok (.tuple #[.agg #[.int .u64 (yi:Nat),.string yn,.int .i64 yk,.int .i64 yv,.float .f64 yf,.string ys,.slice yA ym yc,.int .i64 yN,.bool yb,.int .u64 (ya:Nat)],.bool okb]) W) W):=U fun W hW=>⟨(DE (HST.out W hW).blk).1,(Ev.EBox.cells (HE.out W hW)).2.1,HL.out W ((hb1.trans (hW.mono hb1.size)).block _ h.maps.tasks.lt)⟩
 obtain⟨W2,hW2⟩:=Rv ((W1.alloc (.cells #[.int .u64 (yi:Nat),.string yn,.int .i64 yk,.int .i64 yv,.float .f64 yf,.string ys,.slice yA ym yc,.int .i64 yN,.bool yb,.int .u64 (ya:Nat)] 36)).drew)
 have hq2:Below W1.heap.size W1 W2:=by rw[hW2];exact Da Ru
 have hz2:W2.heap.size=w.heap.size+2:=by rw[hW2];simp[hz1]
 have ht2:W2.heap[W1.heap.size]?=some (.cells #[.int .u64 (yi:Nat),.string yn,.int .i64 yk,.int .i64 yv,.float .f64 yf,.string ys,.slice yA ym yc,.int .i64 yN,.bool yb,.int .u64 (ya:Nat)] 36 (0,0)):=by rw[hW2];exact heap_alloc_new _ _
 have HB2:=U (hb1.trans (hq2.mono hb1.size));have HQ2:=U hq2;have HZ1:=U hz1;have HZ2:=U hz2;have HT2:=U ht2;have HGL:=U hgl
 have H0:=U h
 have HBW:=U hb1
 have HSW:Hid (∀W,Below W1.heap.size W1 W->∀y,W1.heap.size<=y->Below W1.heap.size W1 W):=U fun W hW _ _=>hW
 unfold Db at hW1
 replace hW1:=U hW1;replace hW2:=U hW2
 clear h hb1 hx1 hq2 ht2 hgl hz1 hz2 HL
 unfold Db
 go_enter Tryz.func103,Tryz.ntmps103
 go_upto_region 1 with fail
 rw[<-hW1.out]
 refine wp_region_noPanic ?_
 refine wp_region_held_drew (S:=(fun W=>W.cell? ⟨g,0,none⟩=some (.map (some bt))/\W.cell? ⟨w.heap.size,1,none⟩=some (.int .u64 (id:Nat))/\(Instr.lookup 119 (.map (some bt)) (.int .u64 (id:Nat)) true).run Tryz.prog W= .ok (.tuple #[.agg #[.int .u64 (yi:Nat),.string yn,.int .i64 yk,.int .i64 yv,.float .f64 yf,.string ys,.slice yA ym yc,.int .i64 yN,.bool yb,.int .u64 (ya:Nat)],.bool okb]) W)) O2 ?_ (fun hHeld=> ?_)
 ·exact M58
 refine tk 0 rfl ?_
 refine tk 1 rfl ?_
 refine tk 2 rfl ?_
 refine tk 3 rfl ?_
 refine tk 4 rfl ?_
 refine tk 5 rfl ?_
 refine tk 6 rfl ?_
 refine tk 7 rfl ?_
 refine tk 8 rfl ?_
 refine tk 9 rfl ?_
 refine rd1 10 rfl fun K hK=> ?_
 go_simp
 refine hK.out _ _ (KS.out _ ((Da (Below.refl _ _)).alloc (Nat.le_refl _) _)) (fun hHeld2=> ?_)
 clear hK K hHeld
 try simp only[ap]
 refine rd1 11 rfl fun K hK=> ?_
 go_simp
 refine hK.out _ _ (KS.out _ (Da Ru)) (fun hHeld3=> ?_)
 clear hK K hHeld2
 try simp only[ap]
 refine rd1 12 rfl fun K hK=> ?_
 go_simp
 refine hK.out _ _ (KS.out _ (Da Ru)) (fun hHeld4=> ?_)
 clear hK K hHeld3
 try simp only[ap]
 refine wpAnyH_done O2 ?_ _
 refine NoPanic.normal ?_
 clear hHeld4
 rw[<-hW2.out]
 have h:=HST.out W2 HQ2.out
 obtain⟨c0,c1,c2,c3,c4,f0,f1,f2,f3,f4⟩:=DE h.blk
 obtain⟨e0,e1,e2,e3,e4,e5,e6,e7,e8,e9,e10⟩:=Ev.EBox.cells (HE.out W2 HQ2.out)
 dsimp only at e0 e1 e2 e3 e4 e5
 obtain⟨t0,t1,t2,t3,t4,t5,t6,t7,t8,t9,tf⟩:=Fe HT2.out
 by_cases hid2:id=s.next
 rotate_left
 ·have kid : ((id : Int) != (s.next : Int)) = true := by simp; omega
  have HX:Hid (Dc now alone ⟨7,id,en,at',name,text,ev⟩ s=none):=U (by simp[Dc,hid2])
  exact M132
 have kid:((id:Int) != (s.next:Int))=false:=by simp;omega
 have HID:=U hid2
 obtain⟨h3',hc3⟩:=h.cell 3 (.int .u64 ((s.next:Int)+1)) {s with next:=s.next+1} rfl rfl rfl rfl
 have h3:=h3'.later (Da (Below.refl _ _))
 obtain⟨W3,hW3⟩:=Rv ((W2.setCell ⟨g,3,none⟩ (.int .u64 ((s.next:Int)+1))).drew)
 replace hc3:=hc3.trans (Chg.of_below (X:=XS g bt bm bk) (Da (Below.refl _ _)))
 clear h3'
 rw[<-hW3] at h3 hc3
 have HC3:=U ((Chg.of_below HB2.out).trans hc3)
 have hz3:W3.heap.size=W2.heap.size:=by rw[hW3];simp[World.setCell,World.drew]
 have hx3:Ev.EBox W3 w.heap.size (Db ⟨7,id,en,at',name,text,ev⟩ vk vn vf vs A m c):=by
  exact M141
 have HX3:=U hx3;have H3:=U h3;have HZ3:=U hz3
 clear hid2 hc3 hx3 h3 hz3
 go_upto_region 31 with fail
 go_still_tail 6,O2
 go_upto_region 34 with fail
 rw[<-hW3]
 replace hW3:=U hW3
 clear h c0 c1 c2 c3 c4 f0 f1 f2 f3 f4 e0 e1 e2 e3 e4 e5 e6 e7 e8 e9 e10 t0 t1 t2 t3 t4 t5 t6 t7 t8 t9 tf
 have h:=H3.out
 obtain⟨c0,c1,c2,c3,c4,f0,f1,f2,f3,f4⟩:=DE h.blk
 obtain⟨e0,e1,e2,e3,e4,e5,e6,e7,e8,e9,e10⟩:=Ev.EBox.cells HX3.out
 dsimp only at e0 e1 e2 e3 e4 e5
 have KS5:Hid (∀W,Below W3.heap.size W3 W->(fun W=>W.cell? ⟨g,0,none⟩=some (.map (some bt))/\W.cell? ⟨w.heap.size,1,none⟩=some (.int .u64 (id:Nat))/\W.cell? ⟨w.heap.size,4,none⟩=some (.string name)/\W.cell? ⟨w.heap.size,6,none⟩=some (.int .i64 vk)/\W.cell? ⟨w.heap.size,7,none⟩=some (.int .i64 vn)/\W.cell? ⟨w.heap.size,8,none⟩=some (.float .f64 vf)/\W.cell? ⟨w.heap.size,9,none⟩=some (.string vs)/\W.cell? ⟨w.heap.size,10,none⟩=some (.slice A m c)) W):=U fun W hW=>by
  obtain⟨q0,-⟩:=DE (H3.out.later hW).blk
  obtain⟨-,z1,-,-,z4,-,z6,z7,z8,z9,z10⟩:=Ev.EBox.cells (HX3.out.later hW (by have:=HZ3.out;have:=HZ2.out;omega))
  exact⟨q0,z1,z4,z6,z7,z8,z9,z10⟩
 have hvd:Rep W3.drew lo hi' ev (Dn vk vn vf vs A m c):=Rep.keep HV0.out fun b o h1 h2=>by
  obtain⟨l1,l2,l3,l4⟩:=HLW.out
  exact World.cell?_of_block (a:=⟨b,o,none⟩) (HC3.out.block b O0 (fun hx=>by rcases hx with rfl|rfl|rfl|rfl<;>omega))
 have HCL:=U (Vt.Sx ev W3.drew lo hi' _ hvd (by have:=HC3.out.size;show hi'<=W3.heap.size;omega) hsl)
 clear hvd
 unfold Dn at HCL
 go_upto_region 37 with fail
 refine wp_region_noPanic ?_
 refine wp_region_held_drew (S:=(fun W=>W.cell? ⟨g,0,none⟩=some (.map (some bt))/\W.cell? ⟨w.heap.size,1,none⟩=some (.int .u64 (id:Nat))/\W.cell? ⟨w.heap.size,4,none⟩=some (.string name)/\W.cell? ⟨w.heap.size,6,none⟩=some (.int .i64 vk)/\W.cell? ⟨w.heap.size,7,none⟩=some (.int .i64 vn)/\W.cell? ⟨w.heap.size,8,none⟩=some (.float .f64 vf)/\W.cell? ⟨w.heap.size,9,none⟩=some (.string vs)/\W.cell? ⟨w.heap.size,10,none⟩=some (.slice A m c))) O2 ?_ (fun hHeld=> ?_)
 ·exact KS5.out _ (Da (Below.refl _ _))
 refine tk 0 rfl ?_
 refine tk 1 rfl ?_
 refine tk 2 rfl ?_
 refine tk 3 rfl ?_
 refine tk 4 rfl ?_
 refine tk 5 rfl ?_
 refine tk 6 rfl ?_
 refine tk 7 rfl ?_
 refine tk 8 rfl ?_
 refine tk 9 rfl ?_
 refine tk 10 rfl ?_
 refine tk 11 rfl ?_
 refine tk 13 rfl ?_
 refine rd1 12 rfl fun K hK=> ?_
 go_simp
 (with_reducible refine HCL.out.mono ?_)
 rintro e5 w5 ⟨kq,nq,fq,sq,lq,A2,cap2,ht,rfl,hr5,hb9,-⟩
 have hq5:Below W3.heap.size W3 w5:=(Da (Below.refl _ _)).trans hb9
 have hz5:=hq5.size
 have hnone:Fc s.tasks id=none:=by
  unfold Fc
  rw[List.find?_eq_none]
  intro t ht2
  have:=HF.out.below t ht2
  have:=HID.out
  simp;omega
 have htr:TRep (Ds (XY Y g bt bm bk) w5) ⟨id,name,ev,0,false,now⟩ (.agg #[.int .u64 (id:Nat),.string name,.int .i64 kq,.int .i64 nq,.float .f64 fq,.string sq,.slice A2 lq.length cap2,.int .i64 0,.bool false,.int .u64 (now:Nat)]):=
  ⟨W3.heap.size, w5.heap.size, kq, nq, fq, sq, A2, lq.length, cap2, rfl, ⟨hi, Int.le_refl 0, (by decide : (0 : Int) <= 2147483647), hnow, hs1⟩, Rep.keep hr5 fun b o h1 h2 => World.cell?_of_block (a := ⟨b, o, none⟩) (Ff fun hx => by
   have h1':W3.heap.size<=b:=h1
   have:=HC3.out.size
   have:=(Array.getElem?_eq_some_iff.1 H3.out.blk).1
   have:=H3.out.maps.tasks.lt;have:=H3.out.maps.timers.lt;have:=H3.out.maps.keys.lt
   have hx':XY Y g bt bm bk b:=hx
   rcases hx' with hx|rfl|rfl|rfl|rfl
   ·have:=HYY.out b hx;omega
   all_goals omega),by rw[DL];exact Nat.le_refl _⟩
 obtain⟨wd,hput,hmd,hturn⟩:=(H3.out.later hq5).maps.tasks.put (by simp only[maxLen];omega) htr (ts':=s.tasks++ [⟨id,name,ev,0,false,now⟩]) (fun q=>LK hnone q)
 obtain⟨hsd,hcd⟩:=(H3.out.later hq5).turnT hturn hmd (Nat.le_succ _)
 have hput':(Instr.mapUpdate 119 (.map (some bt)) (.int .u64 (id:Nat)) (.agg #[.int .u64 (id:Nat),.string name,.int .i64 kq,.int .i64 nq,.float .f64 fq,.string sq,.slice A2 lq.length cap2,.int .i64 0,.bool false,.int .u64 (now:Nat)])).run Tryz.prog w5= .ok () wd:=hput
 have KWD:Hid ((fun W=>W.cell? ⟨g,0,none⟩=some (.map (some bt))/\W.cell? ⟨w.heap.size,1,none⟩=some (.int .u64 (id:Nat))/\W.cell? ⟨w.heap.size,4,none⟩=some (.string name)/\W.cell? ⟨w.heap.size,6,none⟩=some (.int .i64 vk)/\W.cell? ⟨w.heap.size,7,none⟩=some (.int .i64 vn)/\W.cell? ⟨w.heap.size,8,none⟩=some (.float .f64 vf)/\W.cell? ⟨w.heap.size,9,none⟩=some (.string vs)/\W.cell? ⟨w.heap.size,10,none⟩=some (.slice A m c)) wd):=U (by
  obtain⟨q0,-⟩:=DE hsd.blk
  obtain⟨-,z1,-,-,z4,-,z6,z7,z8,z9,z10⟩:=Ev.EBox.cells ((hturn.grown.block w.heap.size (by have:=HZ3.out;have:=HZ2.out;omega) (fun e=>by injection e with e;have:=H0.out.maps.tasks.lt;omega)).trans (HX3.out.later hq5 (by have:=HZ3.out;have:=HZ2.out;omega)))
  exact⟨q0,z1,z4,z6,z7,z8,z9,z10⟩)
 have HSD:=U hsd;have HCD:=U ((HC3.out.trans (Chg.of_below hq5)).trans hcd)
 have HX:Hid (Dc now alone ⟨7,id,en,at',name,text,ev⟩ s=some {s with tasks:=s.tasks++ [⟨id,name,ev,0,false,now⟩],next:=s.next+1}):=U (by simp[Dc,HID.out])
 have HQ5:=U hq5
 clear ht hr5 hb9 hnone htr hput hmd hturn hsd hcd hq5
 go_wp2_with fail
 refine hK.out _ _ (KS5.out _ HQ5.out) (fun hHeld2=> ?_)
 clear hK K hHeld
 try simp only[ap]
 refine tk 14 rfl ?_
 refine rd1 15 rfl fun K hK=> ?_
 go_simp
 refine hK.out _ _ KWD.out (fun hHeld3=> ?_)
 clear hK K hHeld2
 try simp only[ap]
 refine wpAnyH_done O2 ?_ _
 refine NoPanic.normal ?_
 clear hHeld3
 clear h c0 c1 c2 c3 c4 f0 f1 f2 f3 f4 e0 e1 e2 e3 e4 e5 e6 e7 e8 e9 e10
 go_wp2_with fail
 go_ret
 exact⟨HCD.out,by rw[HX.out];exact⟨rfl,HSD.out⟩⟩
open Ev (fieldsOf DB GR)
theorem Ld {e:EV}(hf:Dj e)(hv:e.valid=true)(hs:e.v.Slim 900):FV e:=by
 unfold Ev.EV.valid GR at hv
 simp only[List.all_cons,List.all_nil,Bool.and_true,Bool.and_eq_true,decide_eq_true_eq] at hv
 obtain⟨⟨h0,h1⟩,-,g1,g2,-⟩:=hv
 have hn:0<=e.n/\e.n<=2147483647:=by
  unfold DB at g1
  split at g1
  ·have:=of_decide_eq_true g1;omega
  ·have : e.n = 0 := by simpa using g1
   omega
 refine⟨hf,h0,h1,hn.1,hn.2,fun h3=> ?_,hs⟩
 rw[h3] at g2
 have:(fieldsOf (3:Int).toNat).contains 2=false:=O1
 rw[this] at g2
 unfold DB at g2
 simpa using g2
theorem Rc (g bt bm bk : Nat) (s : ST) (h : SAt Y w g bt bm bk n s) (hn : n < 17592186044416) (hx : s.next < 1152921504606846976) (hf : GX s) (hY : ∀ b, Y b -> b < w.heap.size) (e : EV) (he : FV e) (vk vn : Int) (vf : Nat) (vs : ByteArray) (A : Option Addr) (m c : Nat)
  (lo hi':Nat) (hv:Rep w lo hi' e.v (Dn vk vn vf vs A m c)) (hhi:hi'<=w.heap.size) (hlow:hi'<=g/\hi'<=bt/\hi'<=bm/\hi'<=bk) (now:Nat) (hnow:now<18446744073709551616) (alone:Bool) :
  Calls Tryz.prog 103 #[.pointer (some ⟨g,0,none⟩),.agg (Db e vk vn vf vs A m c),.int .u64 (now:Nat),.bool alone] w (Sj Y w g bt bm bk n (Dc now alone e s)):=by
 have h0:=he.k0;have h1:=he.k1
 rcases (by omega:e.k=1\/e.k=2\/e.k=3\/e.k=4\/e.k=5\/e.k=6\/e.k=7\/e.k=8\/e.k=9\/e.k=10\/e.k=11) with k|k|k|k|k|k|k|k|k|k|k
 ·exact apply1 g bt bm bk s h e he k vk vn vf vs A m c now alone
 ·exact apply2 g bt bm bk s h e he k vk vn vf vs A m c now alone hn
 ·exact Jf g bt bm bk s h e he k vk vn vf vs A m c now alone
 ·by_cases ha : e.at' = 0
  ·exact Je g bt bm bk s h e he k vk vn vf vs A m c now alone ha
  ·exact Ks g bt bm bk s h e he k vk vn vf vs A m c now alone hn ha
 ·exact apply5 g bt bm bk s h e he k vk vn vf vs A m c now alone
 ·exact apply6 g bt bm bk s h e he k vk vn vf vs A m c now alone hn
 ·exact apply7 g bt bm bk s h e he k vk vn vf vs A m c now alone hn hx hf hY lo hi' hv hhi hlow hnow
 ·exact apply8 g bt bm bk s h e he k vk vn vf vs A m c now alone hn hx hf
 ·exact apply9 g bt bm bk s h e he k vk vn vf vs A m c now alone
 ·exact apply10 g bt bm bk s h e he k vk vn vf vs A m c now alone
 ·exact apply11 g bt bm bk s h e he k vk vn vf vs A m c now alone
theorem OL {now:Nat}{alone:Bool}{e:EV}{s s':ST}(h:Dc now alone e s=some s'):s'.next<=s.next+1:=by
 unfold Dc at h
 repeat' split at h
 all_goals first | cases h|skip
 all_goals first | exact Nat.le_succ _|exact Nat.le_refl _|skip
theorem PT {now:Nat}{alone:Bool}{e:EV}{s s':ST}(h:Dc now alone e s=some s'):s'.keys.length<=s.keys.length+1:=by
 unfold Dc at h
 repeat' split at h
 all_goals first | cases h|skip
 all_goals first | exact Nat.le_succ _|(simp;done)|skip
theorem Nf {now : Nat} {e : EV} {r : List EV} {first : Bool} {s : ST} (hk : decide (e.k <= 6) = first) : runM now (e :: r) first s = (Dc now r.isEmpty e s).bind (runM now r false) := by
 rw[runM,if_pos hk]
theorem runM_not {now : Nat} {e : EV} {r : List EV} {first : Bool} {s : ST} (hk : ¬ decide (e.k <= 6) = first) : runM now (e :: r) first s = none := by
 rw[runM,if_neg hk]
theorem Xt {es:List EV}{j:Nat}(h:j<es.length):(es.drop (j+1)).isEmpty=decide ((j:Int)=(es.length:Int)-1):=by
 by_cases q:j+1=es.length
 ·rw[q,List.drop_length,decide_eq_true O0];rfl
 ·rw [decide_eq_false O0]
  cases hd:es.drop (j+1) with
  | nil=>rw[List.drop_eq_nil_iff] at hd;omega
  | cons a l=>rfl
end Hi
namespace Cn
open Nm (Di Dl De)
open Vt (VT Rep BoxAt Da DU DW KidsAt Fz)
open Ev (EV Dj Db Dn EBox Sz zeroT take_drop tk ap rd1 rd2 Dg)
open Cm (rowOf EvsIn EvsAt EvNew FT Gq)
def Gv (e:EV):Bool:=e.v.few&&decide (e.name.size<=1100)&&decide (e.text.size<=1100)
theorem M55 (h:p:=by
 go_wp2_with (go_at_call 78;refine HV.out.mono ?_;rintro x w1 ⟨rfl,hb1⟩;have HB1:=U (HB0.out.trans (hb1.mono HB0.out.size));obtain⟨q0,q1,q2,q3,q4,q5,q6,q7,q8,q9,q10⟩:=EBox.cells (HX0.out.later hb1 HX0.out.lt);clear hb1)
 go_ret
 exact⟨De (by unfold Gv;rw[HFW.out];simp;omega),HB1.out⟩):p:=h
theorem Q474.Y472 (h:p:=by
 have HV:=U (Vt.few_any e.v W0 lo hi _ (hv.later (hb0.mono hz)) (Nat.le_trans hz hb0.size))
 obtain⟨g0,g1,g2,g3,g4,g5,g6,g7,g8,g9,g10⟩:=EBox.cells hx0
 have HX0:=U hx0
 have HB0:=U hb0
 have hsn:=hf.s1
 have hst:=hf.t1
 simp only[maxLen] at hsn hst
 clear hv hf hx0 hb0
 unfold Db at hW0 ⊢
 unfold Dn at HV
 replace hW0:=U hW0
 go_enter Tryz.func47,Tryz.ntmps47
 go_upto_region 1 with fail
 rw[<-hW0.out]
 generalize hfw:e.v.few=fw at *
 have HFW:=U hfw;clear hfw
 cases fw with
 | false=>
  go_wp2_with (go_at_call 78;refine HV.out.mono ?_;rintro x w1 ⟨rfl,hb1⟩;have HB1:=U (HB0.out.trans (hb1.mono HB0.out.size));clear hb1)
  go_ret
  exact⟨De (by unfold Gv;rw[HFW.out];rfl),HB1.out⟩
 | true=>
  by_cases h1:e.name.size<=1100
  ·have k1 : decide ((e.name.size : Int) <= 1100) = true := decide_eq_true O0
   by_cases h2:e.text.size<=1100
   ·have k2 : decide ((e.text.size : Int) <= 1100) = true := decide_eq_true O0
    exact M55
   ·have k2 : decide ((e.text.size : Int) <= 1100) = false := decide_eq_false O0
    exact M55
  ·have k1 : decide ((e.name.size : Int) <= 1100) = false := decide_eq_false O0
   exact M55):p:=h
theorem M472 (h:p:=by
 obtain⟨W0,hW0⟩:=Rv (w.alloc (.cells (Db e vk vn vf vs A m c) 61))
 have hb0:Below w.heap.size w W0:=by rw[hW0];exact Ru
 have hx0:EBox W0 w.heap.size (Db e vk vn vf vs A m c):=by rw[hW0];exact Gr ..
 exact Y472):p:=h
theorem efew_any (e:EV)(hf:Dj e)(lo hi:Nat)(vk vn:Int)(vf:Nat)(vs:ByteArray)(A:Option Addr)(m c:Nat)(w:World)(hv:Rep w lo hi e.v (Dn vk vn vf vs A m c))(hz:hi<=w.heap.size) :
  Calls Tryz.prog 47 #[.agg (Db e vk vn vf vs A m c)] w fun r w'=>r= .returned (.bool (Gv e))/\Below w.heap.size w w':=by
 open Q474 in exact M472
structure BT where mk ::
 flow:ByteArray
 at':Nat
 es:List EV
structure BtsIn (w : World) (A : Option Addr) (cap : Nat) (bl : List BT) : Prop where
 le:bl.length<=cap
 cap_le:cap<=maxLen
 at_:0<bl.length->∃b off,A=some ⟨b,off,none⟩/\b<w.heap.size/\∀i (h:i<bl.length),∃A' c',bl[i].flow.size<=maxLen/\bl[i].at'<18446744073709551616/\EvsIn w A' c' bl[i].es/\
  w.cell? ⟨b,off+i*3,none⟩=some (.string bl[i].flow)/\w.cell? ⟨b,off+i*3+1,none⟩=some (.int .u64 bl[i].at')/\w.cell? ⟨b,off+i*3+2,none⟩=some (.slice A' bl[i].es.length c')
theorem BtsIn.later {w w':World}{A:Option Addr}{cap:Nat}{bl:List BT}(h:BtsIn w A cap bl)(hb:Below w.heap.size w w'):BtsIn w' A cap bl:=⟨h.le,h.cap_le,fun hp=>by
 obtain⟨b,off,hA,hlt,h3⟩:=h.at_ hp
 refine⟨b,off,hA,Nat.lt_of_lt_of_le hlt hb.size,fun i hi=> ?_⟩
 obtain⟨A',c',h4,h5,h6,c0,c1,c2⟩:=h3 i hi
 have e:∀o,w'.cell? ⟨b,o,none⟩=w.cell? ⟨b,o,none⟩:=fun o=>hb.cell (p:=⟨b,o,none⟩) hlt
 exact⟨A',c',h4,h5,h6.later hb,(e _).trans c0,(e _).trans c1,(e _).trans c2⟩⟩
def PV (bl:List BT):Nat:=(bl.map fun b=>min b.es.length 100).sum
structure Vs (bl : List BT) : Prop where
 len:bl.length<=60
 sum:PV bl<=150
 flow:∀i (h:i<bl.length),bl[i].flow.size<=300
 few:∀i (h:i<bl.length) k (hk:k<bl[i].es.length),Gv bl[i].es[k]=true
theorem LA (bl:List BT)(j:Nat)(h:j<bl.length):PV (bl.take (j+1))=PV (bl.take j)+min bl[j].es.length 100:=by
 unfold PV
 rw[List.take_succ_eq_append_getElem h,List.map_append,List.sum_append];simp
def Few12Res (bl:List BT)(w:World)(r:Ending)(w':World):Prop:=∃b,r= .returned (.bool b)/\(b=true->Vs bl)/\Below w.heap.size w w'
theorem Sw (bl:List BT)(A:Option Addr)(cap:Nat)(w:World)(h:BtsIn w A cap bl) :
  Calls Tryz.prog 27 #[.slice A bl.length cap] w (Few12Res bl w):=by
 have hl:=h.le
 have hc:=h.cap_le
 simp only[maxLen] at hc
 have HK:=U h;clear h
 go_enter Tryz.func27,Tryz.ntmps27
 go_wp2_with fail
 go_loopw [2,3,4] (fun r n i wr=>∃(j y:Nat),j<=bl.length/\i= .int .i64 j/\r= .bool false/\n= .int .i64 y/\y<=150/\y=PV (bl.take j)/\(∀i (h:i<bl.length),i<j->bl[i].flow.size<=300/\∀k (hk:k<bl[i].es.length),Gv bl[i].es[k]=true)/\Below w.heap.size w wr) (fun _ _ i _=>bl.length-(intOf i).toNat)
 case atStart=>exact⟨0,0,O0,rfl,rfl,rfl,O0,rfl,fun i _ h=>absurd h O0,Below.refl _ _⟩
 case round=>
  obtain⟨j,y,hj,rfl,rfl,rfl,hy,hys,hfew,hb⟩:=hrel
  have HF:=U hfew
  have HB:=U hb
  have HYS:=U hys
  clear hfew hb hys
  by_cases hlt:j<bl.length
  ·obtain ⟨b, off, rfl, hblt, h3⟩ := (HK.out.later HB.out).at_ O0
   obtain⟨A',c',hfl,hat,hes,d0,d1,d2⟩:=h3 j hlt
   have hle:=hes.le
   have hcm:=hes.cap_le
   simp only[maxLen] at hcm hfl
   have HES:=U fun W (hW:Below wr.heap.size wr W)=>hes.later hW
   have HD:=U fun W (hW:Below wr.heap.size wr W)=>(hW.cell (p:=⟨b,off+j*3+2,none⟩) hblt).trans d2
   have HWT:=U (LA bl j hlt)
   clear h3 hes
   obtain⟨es,hes⟩:=Rv (bl[j].es)
   rw[<-hes] at HES HD HWT d2 hle
   have HEE:=U hes
   clear hes
   generalize hn:es.length=n at *
   have HN:=U hn;clear hn
   generalize hff:bl[j].flow=ff at *
   have HSZ:Hid (bl[j].flow.size=ff.size):=U (by rw[hff]);clear hff
   go_upto_region 6 with fail
   obtain⟨z,hz⟩:=Rv ((y:Int)+(if (100:Int)<(n:Int) then (100:Int) else (n:Int)):Int)
   have hz0:z=((y+min n 100:Nat):Int):=by rw[hz];split<;>omega
   rw[<-hz]
   have hzz:z<=250:=O0
   have hzp:0<=z:=O0
   have HZ:=U hz0
   clear hz hz0 d1
   generalize (if (100:Int)<(n:Int) then (100:Int) else (n:Int))=mm at *
   by_cases hz4:150<z
   ·have hb4 : decide (150 < z) = true := by simpa using hz4
    go_wp2_with fail
    go_ret
    exact⟨false,rfl,(fun h=>by cases h),HB.out⟩
   ·have hb4 : decide (150 < z) = false := by simpa using hz4
    by_cases hs4:300<ff.size
    ·have hb5 : decide ((300 : Int) < (ff.size : Int)) = true := decide_eq_true O0
     go_wp2_with fail
     go_ret
     exact⟨false,rfl,(fun h=>by cases h),HB.out⟩
    ·have hb5 : decide ((300 : Int) < (ff.size : Int)) = false := decide_eq_false O0
     have HSZ4:=U hs4
     have HZ4:=U hz4
     have HBF:=U fun W (hW:Below wr.heap.size wr W)=>HB.out.trans (hW.mono HB.out.size)
     have hzj:y<=150:=hy
     go_wp2_with fail
     go_loopw [2,5] (fun r i wi=>∃(k:Nat),k<=n/\i= .int .i64 k/\r= .bool false/\(∀q (hq:q<es.length),q<k->Gv es[q]=true)/\Below wr.heap.size wr wi) (fun _ i _=>n-(intOf i).toNat)
     case atStart=>exact⟨0,O0,rfl,rfl,fun q _ h=>absurd h O0,Below.refl _ _⟩
     case round=>
      obtain⟨k,hk,rfl,rfl,hall,hbi⟩:=hrel
      have HALL:=U hall;have HBI:=U hbi
      have hdd:=HD.out _ hbi
      clear hall hbi
      by_cases hkl:k<n
      ·have hke : k < es.length := by have := HN.out; omega
       obtain⟨b2,off2,lo,hi,vk,vn,vf,vs,A2,m2,c2,rfl,hbl2,hf,hv,hhi,e0,e1,e2,e3,e4,e5,e6,e7,e8,e9,e10⟩:=(HES.out _ HBI.out).get k hke
       have HC:=U (efew_any es[k] hf lo hi vk vn vf vs A2 m2 c2 _ hv hhi)
       unfold Db at HC
       clear hf hv
       go_wp2_with fail
       refine HC.out.mono ?_
       rintro x w1 ⟨rfl,hb1⟩
       have HB1:=U (HBI.out.trans (hb1.mono HBI.out.size))
       clear hb1 e0 e1 e2 e3 e4 e5 e6 e7 e8 e9 e10 HC
       cases hp:Gv es[k] with
       | true=>
        have HP:=U hp;clear hp
        go_wp2_with fail
        go_roundw
        case rel => exact ⟨k + 1, O0, by go_num, rfl, fun q h hm => by
         rcases Nat.lt_or_ge q k with z|z
         ·exact HALL.out q h z
         ·obtain rfl : q = k := O0
          exact HP.out,HB1.out⟩
        case measure=>simp[intOf];omega
       | false=>
        have HP:=U hp;clear hp
        go_wp2_with fail
        go_ret
        exact⟨false,rfl,(fun h=>by cases h),HBF.out _ HB1.out⟩
      ·have hk' : k = n := O0
       subst hk'
       have HFIN:Hid (∀i (h:i<bl.length),i<j+1->bl[i].flow.size<=300/\∀k (hk:k<bl[i].es.length),Gv bl[i].es[k]=true):=U fun i h hij=>by
        rcases Nat.lt_or_ge i j with z|z
        ·exact HF.out i h z
        ·obtain rfl : i = j := O0
         refine⟨by have:=HSZ.out;have:=HSZ4.out;omega,fun q hq=> ?_⟩
         have hE:=HEE.out
         have:=HALL.out q (by rw[hE];exact hq) (by have:=HN.out;rw[hE] at this;omega)
         simp only[hE] at this
         exact this
       go_wp2_with fail
       exact⟨⟨j+1,y+min k 100,O0,by go_num,rfl,by rw[HZ.out],by have:=HZ.out;have:=HZ4.out;omega,by rw[HWT.out, <-HYS.out],HFIN.out,HBF.out _ HBI.out⟩,by simp[intOf];omega⟩
  ·have hj' : j = bl.length := O0
   subst hj'
   rw[List.take_length] at HYS
   go_wp2_with fail
   go_ret
   exact⟨decide (bl.length<=60),De (decide_eq_decide.2 O0),fun h=>⟨by simpa using h,by have:=HYS.out;omega,fun i hi=>(HF.out i hi hi).1,fun i hi=>(HF.out i hi hi).2⟩,HB.out⟩
end Cn
namespace Hi
open Vt (VT)
open Ev (EV)
open Cn (BT)
structure HM where mk ::
 flow:ByteArray
 bs:List BT
 s:ST
def HM.new (f:ByteArray):HM:=⟨f,[],⟨[],[],[],1,0⟩⟩
def HM.at' (h : HM) : Nat := match h.bs.getLast? with
 | some b=>b.at'
 | none=>0
def Om (b : BT) : Int := match b.es with
 | e::_=>e.k
 | []=>0
def bOk (b:BT):Bool:=decide (b.at'<=9223372036854775807)&&decide (0<b.es.length)&& !b.es.any (fun e=> !e.valid)
def Dt (h:HM)(b:BT):Int×HM:=
 if bOk b=false then (2,h)
 else if b.flow≠h.flow then (6,h)
 else if h.s.closed≠0 then (8,h)
 else if b.at'<h.at'\/¬(Om b=1↔h.bs= []) then (12,h)
 else match runM b.at' b.es true h.s with
  | none=>(12,h)
  | some s'=>(0,⟨h.flow,h.bs++ [b],s'⟩)
theorem Pv (h:HM)(b:BT):(Dt h b).2.flow=h.flow:=by
 unfold Dt
 repeat' split
 all_goals rfl
theorem Pd {h:HM}{b:BT}(hc:(Dt h b).1≠0):(Dt h b).2=h:=by
 unfold Dt at hc ⊢
 by_cases h1:bOk b=false
 ·rw[if_pos h1]
 ·rw [if_neg h1] at hc ⊢
  by_cases h2:b.flow≠h.flow
  ·rw[if_pos h2]
  ·rw [if_neg h2] at hc ⊢
   by_cases h3:h.s.closed≠0
   ·rw[if_pos h3]
   ·rw [if_neg h3] at hc ⊢
    by_cases h4:b.at'<h.at'\/¬(Om b=1↔h.bs= [])
    ·rw[if_pos h4]
    ·rw [if_neg h4] at hc ⊢
     cases hr:runM b.at' b.es true h.s with
     | none=>rfl
     | some s'=>rw[hr] at hc;exact absurd rfl hc
theorem SZ {h:HM}{b:BT}(hc:(Dt h b).1=0):(Dt h b).2.flow=h.flow/\(Dt h b).2.bs=h.bs++ [b]:=by
 unfold Dt at hc ⊢
 by_cases h1:bOk b=false
 ·rw[if_pos h1] at hc;exact absurd (show (2:Int)=0 from hc) O1
 ·rw [if_neg h1] at hc ⊢
  by_cases h2:b.flow≠h.flow
  ·rw[if_pos h2] at hc;exact absurd (show (6:Int)=0 from hc) O1
  ·rw [if_neg h2] at hc ⊢
   by_cases h3:h.s.closed≠0
   ·rw[if_pos h3] at hc;exact absurd (show (8:Int)=0 from hc) O1
   ·rw [if_neg h3] at hc ⊢
    by_cases h4:b.at'<h.at'\/¬(Om b=1↔h.bs= [])
    ·rw[if_pos h4] at hc;exact absurd (show (12:Int)=0 from hc) O1
    ·rw [if_neg h4] at hc ⊢
     cases hr:runM b.at' b.es true h.s with
     | none=>rw[hr] at hc;exact absurd (show (12:Int)=0 from hc) O1
     | some s'=>exact⟨rfl,rfl⟩
def tot (l:List BT):Nat:=(l.map fun b=>b.es.length).sum
theorem GA (l:List BT)(b:BT):tot (l++ [b])=tot l+b.es.length:=by unfold tot;rw[List.map_append,List.sum_append];simp
theorem XQ (l:List BT)(j:Nat)(h:j<l.length):tot (l.take (j+1))=tot (l.take j)+l[j].es.length:=by rw[List.take_succ_eq_append_getElem h,GA]
theorem VD {now : Nat} : ∀ (es : List EV) (first : Bool) (s s' : ST), GX s -> runM now es first s = some s' -> GX s'
 | [],_,s,s',hf,h=>by cases h;exact hf
 | e :: r, first, s, s', hf, h => by
  unfold runM at h
  split at h
  ·cases ha:Dc now r.isEmpty e s with
   | none=>rw[ha] at h;cases h
   | some s1=>rw[ha] at h;exact VD r false s1 s' (GG hf ha) h
  ·cases h
theorem Ss {now : Nat} : ∀ (es : List EV) (first : Bool) (s s' : ST), runM now es first s = some s' -> s'.next <= s.next + es.length /\ s'.keys.length <= s.keys.length + es.length
 | [],_,s,s',h=>by cases h;simp
 | e :: r, first, s, s', h => by
  unfold runM at h
  split at h
  ·cases ha:Dc now r.isEmpty e s with
   | none=>rw[ha] at h;cases h
   | some s1=>
    rw[ha] at h
    have:=Ss r false s1 s' h
    have:=OL ha
    have:=PT ha
    simp;omega
  ·cases h
structure Pg (h : HM) : Prop where
 fine:GX h.s
 next:h.s.next<=tot h.bs+1
 pos:∀b∈h.bs,0<b.es.length
theorem VJ (f:ByteArray):Pg (HM.new f):=⟨NJ,by simp[HM.new,tot],fun b h=>by simp[HM.new] at h⟩
theorem bOk_pos {b:BT}(h:¬bOk b=false):0<b.es.length:=by
 unfold bOk at h
 rcases Nat.eq_zero_or_pos b.es.length with e|e
 ·exfalso;apply h;rw[e];simp
 ·exact e
theorem VK {h:HM}(hf:Pg h)(b:BT):Pg (Dt h b).2:=by
 unfold Dt
 by_cases h1:bOk b=false
 ·rw[if_pos h1];exact hf
 ·rw [if_neg h1]
  split
  ·exact hf
  ·split
   ·exact hf
   ·split
    ·exact hf
    ·cases hr:runM b.at' b.es true h.s with
     | none=>exact hf
     | some s'=>exact⟨VD _ _ _ _ hf.fine hr,by
       have:=(Ss _ _ _ _ hr).1
       have:=hf.next
       show s'.next<=tot (h.bs++ [b])+1
       rw[GA];omega,fun c hc=>by
       rcases List.mem_append.1 (show c∈h.bs++ [b] from hc) with q|q
       ·exact hf.pos c q
       ·rw[List.mem_singleton.1 q];exact bOk_pos h1⟩
def goM (now n : Nat) : Nat -> List EV -> ST -> Option ST
 | _,[],s=>some s
 | j,e::r,s=>(Dc now (decide (j+1=n)) e s).bind (goM now n (j+1) r)
theorem Yl {now n : Nat} : ∀ (r : List EV) (j : Nat) (s : ST), j + r.length = n -> (∀ i (h : i < r.length), decide (r[i].k <= 6) = decide (j + i = 0)) -> runM now r (decide (j = 0)) s = goM now n j r s
 | [],j,s,_,_=>rfl
 | e::r,j,s,hn,hf=>by
  have h0:=hf 0 O3
  simp only[List.getElem_cons_zero,Nat.add_zero] at h0
  have he:r.isEmpty=decide (j+1=n):=by
   rw[List.length_cons] at hn
   cases r with
   | nil=>rw[List.length_nil] at hn;exact(decide_eq_true (by omega:j+1=n)).symm
   | cons a r=>rw[List.length_cons] at hn;exact(decide_eq_false (by omega:¬j+1=n)).symm
  unfold runM goM
  rw[if_pos h0,he]
  cases Dc now (decide (j+1=n)) e s with
  | none=>rfl
  | some s1=>
  show runM now r false s1=goM now n (j+1) r s1
  have h := Yl (now := now) (n := n) r (j + 1) s1 (by have h9 : (e :: r).length = r.length + 1 := List.length_cons; omega) (fun i hi => by
   have q:=hf (i+1) (by rw[List.length_cons];omega)
   rw[List.getElem_cons_succ] at q
   rw[q,show j+1+i=j+(i+1) by omega])
  rw[show decide (j+1=0)=false from decide_eq_false O0] at h
  exact h
theorem Ym {now : Nat} : ∀ (r : List EV) (j : Nat) (s : ST), (∃ i, ∃ h : i < r.length, decide (r[i].k <= 6) ≠ decide (j + i = 0)) -> runM now r (decide (j = 0)) s = none
 | [],j,s,h=>by obtain⟨i,h,-⟩:=h;simp at h
 | e::r,j,s,hx=>by
  unfold runM
  by_cases h0:decide (e.k<=6)=decide (j=0)
  ·rw [if_pos h0]
   obtain⟨i,h,hi⟩:=hx
   cases ha:Dc now r.isEmpty e s with
   | none=>rfl
   | some s1=>
    cases i with
    | zero=>exact absurd h0 hi
    | succ i=>
     have q := Ym (now := now) r (j + 1) s1 ⟨i, by simpa using h, by
      rw[List.getElem_cons_succ] at hi
      rw[show j+1+i=j+(i+1) by omega]
      exact hi⟩
     rw[show decide (j+1=0)=false from decide_eq_false O0] at q
     exact q
  ·rw[if_neg h0]
theorem goM_at {now n:Nat}{es:List EV}{j:Nat}(h:j<es.length)(s:ST):goM now n j (es.drop j) s=(Dc now (decide (j+1=n)) es[j] s).bind (goM now n (j+1) (es.drop (j+1))):=by
 rw[List.drop_eq_getElem_cons h];rfl
theorem goM_end {now n:Nat}{es:List EV}{j:Nat}(h:es.length<=j)(s:ST):goM now n j (es.drop j) s=some s:=by
 rw[List.drop_eq_nil_of_le h];rfl
def AtM (now : Nat) (es : List EV) (s0 : ST) (j : Nat) (o : Option ST) : Prop := goM now es.length 0 es s0 = match o with
 | some s=>goM now es.length j (es.drop j) s
 | none=>none
theorem Rb {now:Nat}{es:List EV}(s0:ST)(h:0<es.length):AtM now es s0 1 (Dc now (decide (0+1=es.length)) es[0] s0):=by
 unfold AtM
 have q:=goM_at (now:=now) (n:=es.length) h s0
 rw[List.drop_zero] at q
 rw[q]
 cases Dc now (decide (0+1=es.length)) es[0] s0<;>rfl
theorem atM_next {now:Nat}{es:List EV}{s0 s:ST}{j:Nat}(hj:j<es.length)(h:AtM now es s0 j (some s)):AtM now es s0 (j+1) (Dc now (decide (j+1=es.length)) es[j] s):=by
 unfold AtM at h ⊢
 rw[h]
 simp only
 rw[goM_at hj]
 cases Dc now (decide (j+1=es.length)) es[j] s<;>rfl
theorem atM_end {now:Nat}{es:List EV}{s0:ST}{o:Option ST}{j:Nat}(hj:es.length<=j)(h:AtM now es s0 j o):goM now es.length 0 es s0=o:=by
 unfold AtM at h
 rw[h]
 cases o with
 | none=>rfl
 | some s=>exact goM_end hj s
theorem atM_none {now:Nat}{es:List EV}{s0:ST}{j:Nat}(h:AtM now es s0 j none):goM now es.length 0 es s0=none:=h
theorem Sg {h : HM} {b : BT} (h1 : ¬ bOk b = false) (h2 : b.flow = h.flow) (h3 : h.s.closed = 0) (h4 : ¬ (b.at' < h.at' \/ ¬ (Om b = 1 ↔ h.bs = []))) : Dt h b = match runM b.at' b.es true h.s with
  | none=>(12,h)
  | some s'=>(0,⟨h.flow,h.bs++ [b],s'⟩):=by
 unfold Dt
 rw[if_neg h1,if_neg (fun q=>q h2),if_neg (fun q=>q h3),if_neg h4]<;>cases runM b.at' b.es true h.s<;>rfl
theorem addM_2 {h:HM}{b:BT}(h1:bOk b=false):Dt h b=(2,h):=by unfold Dt;rw[if_pos h1]
theorem addM_6 {h:HM}{b:BT}(h1:¬bOk b=false)(h2:b.flow≠h.flow):Dt h b=(6,h):=by unfold Dt;rw[if_neg h1,if_pos h2]
theorem addM_8 {h:HM}{b:BT}(h1:¬bOk b=false)(h2:b.flow=h.flow)(h3:h.s.closed≠0):Dt h b=(8,h):=by unfold Dt;rw[if_neg h1,if_neg (fun q=>q h2),if_pos h3]
theorem Lr {h:HM}{b:BT}(h1:¬bOk b=false)(h2:b.flow=h.flow)(h3:h.s.closed=0)(h4:b.at'<h.at'\/¬(Om b=1↔h.bs= [])):Dt h b=(12,h):=by unfold Dt;rw[if_neg h1,if_neg (fun q=>q h2),if_neg (fun q=>q h3),if_pos h4]
def rep (f:ByteArray)(l:List BT):HM:=l.foldl (fun h b=>(Dt h b).2) (HM.new f)
open Nm (Dl De)
open Vt (Rep Da DU)
open Ev (Dj Db Dn take_drop tk ap rd1 rd2 Dg)
open Cm (rowOf EvsIn EvsAt EvNew)
open Cn (BtsIn GD)
variable {X X' Y Y' : Nat -> Prop} {u v w w' V V' : World} {hb bt bm bk n cap : Nat} {A : Option Addr} {h : HM}
theorem BtsIn.leads {A:Option Addr}{cap:Nat}{bl:List BT}(h:BtsIn v A cap bl)(hl:Leads v w):BtsIn w A cap bl:=⟨h.le,h.cap_le,fun hp=>by
 obtain⟨b,off,hA,hlt,h3⟩:=h.at_ hp
 refine⟨b,off,hA,Nat.lt_of_lt_of_le hlt hl.size,fun i hi=> ?_⟩
 obtain⟨A',c',h4,h5,h6,c0,c1,c2⟩:=h3 i hi
 exact⟨A',c',h4,h5,EvsIn.leads h6 hl,hl.cell c0,hl.cell c1,hl.cell c2⟩⟩
theorem Kd {base:Nat}{A:Option Addr}{cap n:Nat}{es:List EV}(h:EvsAt w base A cap n es)(hz:w.heap.size<=w'.heap.size)(hb:∀b,base<=b->b<w.heap.size->w'.heap[b]?=w.heap[b]?):EvsAt w' base A cap n es:=by
 obtain⟨h0,xs,h1,h3⟩:=h
 refine⟨h0,xs,⟨h1.1,?_⟩,fun i hi=> ?_⟩
 ·rcases h1.2 with h | ⟨r, cp, cur, q1, q2, q3, q4⟩
  ·exact .inl h
  ·exact .inr ⟨r,cp,cur,q1,q2,(hb r q2 (Array.getElem?_eq_some_iff.1 q3).1).trans q3,q4⟩
 ·obtain ⟨lo, hi', vk, vn, vf, vs, A, m, c, h0, h1, h2, h3, h5, hfr, h6⟩ := h3 i hi
  have hin:=Cm.Pn h2
  exact⟨lo,hi',vk,vn,vf,vs,A,m,c,h0,h1,h2.keep fun b o z1 z2=>World.cell?_of_block (a:=⟨b,o,none⟩) (hb b O0 O0),Nat.le_trans h3 hz,h5,fun hp b off hA o=>(Cm.DQ (hb b (by have:=hin hp b off hA;omega) (by have:=hin hp b off hA;omega)) o).trans (hfr hp b off hA o),h6⟩
def YH (Y:Nat->Prop)(hb:Nat)(A:Option Addr):Nat->Prop:=fun b=>Y b\/b=hb\/rowOf A=some b
def HZ (hb:Nat)(A:Option Addr):Nat->Prop:=fun b=>b=hb\/rowOf A=some b
def hC (bt bm bk next:Nat)(closed:Int)(flow:ByteArray)(A:Option Addr)(m c:Nat):Array Value:= #[.map (some bt),.map (some bm),.map (some bk),.int .u64 (next:Nat),.int .i64 closed,.string flow,.slice A m c]
theorem FR {W:World}{g bt bm bk next:Nat}{closed:Int}{flow:ByteArray}{A:Option Addr}{m c:Nat}(h:W.heap[g]?=some (.cells (hC bt bm bk next closed flow A m c) 125 (0,0))) :
  W.cell? ⟨g,0,none⟩=some (.map (some bt))/\W.cell? ⟨g,1,none⟩=some (.map (some bm))/\W.cell? ⟨g,2,none⟩=some (.map (some bk))/\W.cell? ⟨g,3,none⟩=some (.int .u64 (next:Nat))/\W.cell? ⟨g,4,none⟩=some (.int .i64 closed)/\W.cell? ⟨g,5,none⟩=some (.string flow)/\W.cell? ⟨g,6,none⟩=some (.slice A m c)/\∀o,W.frozen? ⟨g,o,none⟩=false:=by
 simp[World.cell?,World.frozen?,h,hC]
def BCell (V:World)(xs:List Value)(i:Nat)(b:BT):Prop:=∃A c,b.flow.size<=maxLen/\b.at'<18446744073709551616/\EvsIn V A c b.es/\xs[i*3]?=some (.string b.flow)/\xs[i*3+1]?=some (.int .u64 (b.at':Nat))/\xs[i*3+2]?=some (.slice A b.es.length c)
def BRow (w V:World)(A:Option Addr)(cap:Nat)(bl:List BT):Prop:=∃xs,w.ownsRow 0 64 3 (.slice A bl.length cap) bl.length xs/\∀i (h:i<bl.length),BCell V xs i bl[i]
theorem BRow.nil (w V:World):BRow w V none 0 []:=⟨[],⟨rfl,.inl ⟨rfl,rfl⟩⟩,fun i h=>absurd h O3⟩
theorem BCell.leads {xs:List Value}{i:Nat}{b:BT}(h:BCell V xs i b)(hl:Leads V V'):BCell V' xs i b:=by
 obtain⟨A,c,h1,h2,h3,h4⟩:=h
 exact⟨A,c,h1,h2,EvsIn.leads h3 hl,h4⟩
theorem DC {base n k cap:Nat}{T:TypeId}{A:Option Addr}{xs:List Value}(h:w.ownsRow base T k (.slice A n cap) n xs)(hb:∀r,rowOf A=some r->w'.heap[r]?=w.heap[r]?):w'.ownsRow base T k (.slice A n cap) n xs:=by
 refine⟨h.1,?_⟩
 rcases h.2 with h|⟨r,cp,cur,q1,q2,q3,q4⟩
 ·exact .inl h
 ·injection q1 with q1 _ q1'
  subst q1;subst q1'
  exact .inr ⟨r,cap,cur,rfl,q2,(hb r rfl).trans q3,q4⟩
theorem BRow.move {bl:List BT}(h:BRow w V A cap bl)(hb:∀r,rowOf A=some r->w'.heap[r]?=w.heap[r]?)(hl:Leads V V'):BRow w' V' A cap bl:=by
 obtain⟨xs,h1,h2⟩:=h
 exact⟨xs,DC h1 hb,fun i hi=>(h2 i hi).leads hl⟩
theorem BRow.row_lt {bl:List BT}(h:BRow w V A cap bl):∀r,rowOf A=some r->r<w.heap.size:=by
 obtain⟨xs,h1,-⟩:=h
 exact fun r hr=>(Cn.own_lt h1 r hr).1
theorem Fb {base n k cap:Nat}{T:TypeId}{A:Option Addr}{xs:List Value}(h:w.ownsRow base T k (.slice A n cap) n xs):n<=cap/\cap<=maxLen:=by
 rcases h.2 with ⟨h,h0⟩|⟨r,cp,cur,q1,q2,q3,q4,q5,-⟩
 ·injection h with _ _ h;subst h;exact⟨O0,Nat.zero_le _⟩
 ·injection q1 with _ _ q1';subst q1';exact⟨q4,q5⟩
theorem BRow.read {bl:List BT}(h:BRow w V A cap bl)(hl:Leads V w):BtsIn w A cap bl:=by
 obtain⟨xs,h1,h2⟩:=h
 obtain⟨f1,f2⟩:=Fb h1
 refine⟨f1,f2,fun hp=> ?_⟩
 rcases h1.2 with ⟨-,h0⟩|⟨r,cp,cur,q1,q2,q3,q4,q5,q6,q7⟩
 ·omega
 ·injection q1 with q1 _ q1'
  subst q1;subst q1'
  refine⟨r,0,rfl,(Array.getElem?_eq_some_iff.1 q3).1,fun i hi=> ?_⟩
  obtain⟨A',c,k1,k2,k3,k4,k5,k6⟩:=h2 i hi
  have e:∀p x,p<bl.length*3->xs[p]?=some x->w.cell? ⟨r,p,none⟩=some x:=fun p x hp hx=>by
   rw[<-q7,List.getElem?_take_of_lt hp,Array.getElem?_toList] at hx
   simp[World.cell?,q3,hx]
  exact⟨A',c,k1,k2,EvsIn.leads k3 hl,by rw[Nat.zero_add];exact e _ _ O0 k4,by rw[Nat.zero_add];exact e _ _ O0 k5,by rw[Nat.zero_add];exact e _ _ O0 k6⟩
structure HAt (Y : Nat -> Prop) (w : World) (hb bt bm bk n : Nat) (A : Option Addr) (cap : Nat) (h : HM) : Prop where
 blk:w.heap[hb]?=some (.cells (hC bt bm bk h.s.next h.s.closed h.flow A h.bs.length cap) 125 (0,0))
 maps:Maps3 w (Ds (YH Y hb A) w) bt bm bk n h.s
 row:BRow w (Ds (YH Y hb A) w) A cap h.bs
 yb:¬Y hb
 y1:¬YH Y hb A bt
 y2:¬YH Y hb A bm
 y3:¬YH Y hb A bk
 yr:∀r,rowOf A=some r->¬Y r/\r≠hb
 fine:Pg h
 nn:n<=tot h.bs
 fl:h.flow.size<=maxLen
theorem HAt.lt (H:HAt Y w hb bt bm bk n A cap h):hb<w.heap.size:=(Array.getElem?_eq_some_iff.1 H.blk).1
theorem HAt.chg (H:HAt Y w hb bt bm bk n A cap h)(hc:Chg Y w w'):HAt Y w' hb bt bm bk n A cap h:=by
 have hl:Leads (Ds (YH Y hb A) w) (Ds (YH Y hb A) w'):=Dp hc.size fun b hb hx=>⟨hx,hc.block b hb fun e=>hx (.inl e)⟩
 exact⟨(hc.block hb H.lt H.yb).trans H.blk,⟨H.maps.tasks.keep (hc.block bt H.maps.tasks.lt fun e=>H.y1 (.inl e)) hl,H.maps.timers.keep (hc.block bm H.maps.timers.lt fun e=>H.y2 (.inl e)),H.maps.keys.keep (hc.block bk H.maps.keys.lt fun e=>H.y3 (.inl e))⟩,
  H.row.move (fun r hr=>hc.block r (H.row.row_lt r hr) (H.yr r hr).1) hl,H.yb,H.y1,H.y2,H.y3,H.yr,H.fine,H.nn,H.fl⟩
theorem HAt.later (H:HAt Y w hb bt bm bk n A cap h)(hb':Below w.heap.size w w'):HAt Y w' hb bt bm bk n A cap h:=H.chg (Chg.of_below hb')
theorem HAt.more (H:HAt Y w hb bt bm bk n A cap h)(hY:∀b,b<w.heap.size->Y' b->Y b):HAt Y' w hb bt bm bk n A cap h:=by
 have hl:Leads (Ds (YH Y hb A) w) (Ds (YH Y' hb A) w):=Dp (Nat.le_refl _) fun b hb hx=>⟨fun q=>hx (by rcases q with q|q;exact .inl (hY b hb q);exact .inr q),rfl⟩
 have hk:∀c,c<w.heap.size->¬YH Y hb A c->¬YH Y' hb A c:=fun c hc hx q=>hx (by rcases q with q|q;exact .inl (hY c hc q);exact .inr q)
 exact⟨H.blk,⟨H.maps.tasks.keep rfl hl,H.maps.timers.keep rfl,H.maps.keys.keep rfl⟩,H.row.move (fun _ _=>rfl) hl,fun q=>H.yb (hY hb H.lt q),hk bt H.maps.tasks.lt H.y1,hk bm H.maps.timers.lt H.y2,hk bk H.maps.keys.lt H.y3,fun r hr=>⟨fun q=>(H.yr r hr).1 (hY r (H.row.row_lt r hr) q),(H.yr r hr).2⟩,H.fine,H.nn,H.fl⟩
theorem HAt.batches (H:HAt Y w hb bt bm bk n A cap h):BtsIn w A cap h.bs:=H.row.read (Df _ _)
theorem at_last (l:List BT)(hp:0<l.length)(i:Nat)(hi:i=l.length-1)(h:i<l.length)(f:ByteArray)(s:ST):HM.at' ⟨f,l,s⟩=l[i].at':=by
 subst hi
 unfold HM.at'
 simp only
 rw[List.getLast?_eq_getElem?,List.getElem?_eq_getElem O0]
theorem ND (H:HAt Y w hb bt bm bk n A cap h):Calls Tryz.prog 90 #[.pointer (some ⟨hb,0,none⟩)] w fun r w'=>r= .returned (.string h.flow)/\w'=w:=by
 obtain⟨c0,c1,c2,c3,c4,c5,c6,cf⟩:=FR H.blk
 clear H
 go_enter Tryz.func90,Tryz.ntmps90
 go_wp2_with fail
 go_ret
 exact⟨rfl,rfl⟩
theorem hat_any (H:HAt Y w hb bt bm bk n A cap h):Calls Tryz.prog 100 #[.pointer (some ⟨hb,0,none⟩)] w fun r w'=>r= .returned (.int .u64 (h.at':Nat))/\Below w.heap.size w w':=by
 obtain⟨c0,c1,c2,c3,c4,c5,c6,cf⟩:=FR H.blk
 have hbt:=H.batches
 have hl:=hbt.le
 have hcm:=hbt.cap_le
 simp only[maxLen] at hcm
 clear H
 obtain⟨f,l,s⟩:=h
 dsimp only at hbt hl c0 c1 c2 c3 c4 c5 c6 ⊢
 obtain⟨m,hm⟩:=Rv (l.length)
 rw[<-hm] at c6 hl
 by_cases hp:0<m
 ·obtain ⟨b, off, rfl, hlt, h3⟩ := hbt.at_ O0
  obtain⟨q,hq⟩:=Rv (m-1)
  obtain⟨A',c',-,-,-,d0,d1,d2⟩:=h3 q O0
  have HE:=U (at_last l O0 q O0 O0 f s)
  have hm0:((m:Int)==0)=false:=by simp;omega
  have hqm:q<m:=O0
  generalize l[q].at'=la at *
  rw[HE.out]
  subst hq
  clear hm h3 hbt d0 d2 c0 c1 c2 c3 c4 c5 HE
  go_enter Tryz.func100,Tryz.ntmps100
  go_upto_region 3 with fail
  go_region
  go_wp2_with fail
  go_ret
  exact⟨rfl,Da (Below.refl _ _)⟩
 ·obtain rfl : m = 0 := O0
  have hl0:l= []:=List.eq_nil_of_length_eq_zero hm.symm
  subst hl0
  clear hbt hm hl hp hcm
  go_enter Tryz.func100,Tryz.ntmps100
  go_wp2_with fail
  go_ret
  exact⟨rfl,Below.refl _ _⟩
end Hi
namespace Cn
open Nm (Di Dl De)
open Vt (VT Rep BoxAt Da DU DW KidsAt Fz)
open Ev (EV Dj Db Dn EBox Sz zeroT take_drop tk ap rd1 rd2 Dg)
open Cm (rowOf EvsIn EvsAt EvNew FT Gq)
def DH (e:EV):Bool:= !e.valid
theorem Kj (args:Array Value)(w:World):(callFunc 97 args).run Tryz.prog w= .ok (.enter 97 args) w:=O2
theorem Q473.Y472 (h:p:=by
 have HV:=U (Ev.GI e W0 lo hi _ ⟨hf,vk,vn,vf,vs,A,m,c,rfl,hv.later (hb0.mono hz)⟩ (Nat.le_trans hz hb0.size))
 obtain⟨g0,g1,g2,g3,g4,g5,g6,g7,g8,g9,g10⟩:=EBox.cells hx0
 have HB0:=U hb0
 clear hv hf hx0 hb0
 unfold Db at HV hW0 ⊢
 replace hW0:=U hW0
 go_enter Tryz.func97,Tryz.ntmps97
 go_upto_region 1 with fail
 rw[<-hW0.out]
 go_wp2_with fail
 refine HV.out.mono ?_
 rintro x w1 ⟨rfl,hb1⟩
 have HB1:=U (HB0.out.trans (hb1.mono HB0.out.size))
 clear hb1 g0 g1 g2 g3 g4 g5 g6 g7 g8 g9 g10
 go_wp2_with fail
 go_ret
 exact⟨De (by simp[DH]),HB1.out⟩):p:=h
theorem Kp (es:List EV):Asks 97 DH es:=by
 intro e _ lo hi vk vn vf vs A m c w hf hv hz
 open Q473 in exact M472
theorem NF {p:EV->Bool}{es:List EV}{i:Int}(h:Found p es i):decide (0<=i)=es.any p:=by
 rcases h with ⟨rfl,h⟩|⟨n,rfl,hn,hp,-⟩
 ·have:es.any p=false:=by
   rw[List.any_eq_false]
   intro e he
   obtain⟨m,hm,rfl⟩:=List.getElem_of_mem he
   simp[h m hm]
  rw[this];rfl
 ·have : es.any p = true := List.any_eq_true.2 ⟨_, List.getElem_mem hn, hp⟩
  rw[this];simp
theorem OH (g:Nat)(hcall:∀args w,(callFunc g args).run Tryz.prog w= .ok (.enter g args) w)(p:EV->Bool)(es:List EV)(hG:Asks g p es)(A:Option Addr)(cap:Nat)(w:World)(h:EvsIn w A cap es) :
  Calls Tryz.prog 96 #[.slice A es.length cap,.func (.func g) #[] #[]] w fun r w'=>r= .returned (.bool (es.any p))/\Below w.heap.size w w':=by
 have HI:=U (NB g hcall p es hG A cap w h)
 clear h hG
 go_enter Tryz.func96,Tryz.ntmps96
 go_wp2_with fail
 refine HI.out.mono ?_
 rintro x w1 ⟨i,rfl,hfound,hb1⟩
 have HB1:=U hb1
 have HF:=U (NF hfound)
 clear hb1 hfound
 go_wp2_with fail
 go_ret
 exact⟨De (by rw[<-HF.out]),HB1.out⟩
def Dw (f:ByteArray)(at':Nat)(es:List EV):Bool:= !f.toList.isEmpty&&decide (f.size<=1000)&&decide (at'<=9223372036854775807)&&decide (0<es.length)&& !es.any DH
theorem M125 (h:p:=by
 go_wp2_with fail
 go_ret
 exact⟨De (by unfold Dw;rw[decide_eq_false HN.out];simp),HBF.out⟩):p:=h
theorem Q548.Y547 (h:p:=by
 have hz0:W0.heap.size=w.heap.size+1:=by rw[hW0];simp
 have HC:=U (OH 97 Kj DH es (Kp es) A cap W0 (h.later hb0))
 obtain⟨c0,c1,c2,-⟩:=hx0.cells
 have HX0:=U hx0;have HB0:=U hb0
 replace hW0:=U hW0
 clear h hx0 hb0
 go_enter Tryz.func64,Tryz.ntmps64
 go_upto_region 1 with fail
 rw[<-hW0.out]
 go_upto_region 2 with (go_at_call 96;refine HC.out.mono ?_;rintro x w1 ⟨rfl,hb1⟩;have HB1:=U hb1;obtain⟨d0,d1,d2,-⟩:=(HX0.out.later hb1 O0).cells;clear hb1)
 clear c0 c1 c2
 have HBF:Hid (Below w.heap.size w w1):=U (HB0.out.trans (HB1.out.mono HB0.out.size))
 generalize ha:es.any DH=any at *
 have HA:=U ha;clear ha
 cases h1:f.toList.isEmpty with
 | true=>
  have H1:=U h1
  go_wp2_with fail
  go_ret
  exact⟨De (by unfold Dw;rw[H1.out];rfl),HBF.out⟩
 | false=>
  have H1:=U h1
  by_cases h2:f.size<=1000
  ·have g2 : decide ((f.size : Int) <= 1000) = true := by simp; omega
   by_cases h3:at'<=9223372036854775807
   ·have g3 : decide ((at' : Int) <= 9223372036854775807) = true := decide_eq_true O0
    by_cases h4:0<es.length
    ·have g4 : decide ((0 : Int) < es.length) = true := decide_eq_true O0
     have HN:=U (And.intro h2 (And.intro h3 h4))
     clear h2 h3
     cases any with
     | true=>
      go_wp2_with fail
      go_ret
      exact⟨De (by unfold Dw;rw[HA.out];simp),HBF.out⟩
     | false=>
      go_wp2_with fail
      go_ret
      exact⟨De (by obtain⟨z1,z2,z3⟩:=HN.out;unfold Dw;rw[HA.out,H1.out,decide_eq_true z1,decide_eq_true z2,decide_eq_true z3];rfl),HBF.out⟩
    ·have g4 : decide ((0 : Int) < es.length) = false := decide_eq_false O0
     have HN:=U h4
     exact M125
   ·have g3 : decide ((at' : Int) <= 9223372036854775807) = false := decide_eq_false O0
    have HN:=U h3
    clear h3
    exact M125
  ·have g2 : decide ((f.size : Int) <= 1000) = false := by simp; omega
   have HN:=U h2
   exact M125):p:=h
theorem M547 (h:p:=by
 obtain⟨W0,hW0⟩:=Rv (w.alloc (.cells #[.string f,.int .u64 at',.slice A es.length cap] 64))
 have hx0:BB W0 w.heap.size f at' A es.length cap:=by rw[hW0];exact heap_alloc_new w _
 have hb0:Below w.heap.size w W0:=by rw[hW0];exact Ru
 exact Y547):p:=h
theorem OK (es:List EV)(f:ByteArray)(hfs:f.size<=maxLen)(at':Nat)(hat:at'<18446744073709551616)(A:Option Addr)(cap:Nat)(w:World)(h:EvsIn w A cap es) :
  Calls Tryz.prog 64 #[.agg #[.string f,.int .u64 at',.slice A es.length cap]] w fun r w'=>r= .returned (.bool (Dw f at' es))/\Below w.heap.size w w':=by
 simp only[maxLen] at hfs
 have hle:=h.le
 have hc:=h.cap_le
 simp only[maxLen] at hc
 open Q548 in exact M547
end Cn
end Go.Proofs.YtaahfiopdoinkaaGreat
