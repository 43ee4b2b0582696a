/- value.form and value.Bytes of a value of kind 0. -/
import Derived.Test.YtaahfiopdoinkaaGreatTwar
import Derived.Test.YtaahfiopdoinkaaGreatTwaf
import Derived.Test.YtaahfiopdoinkaaGreatTwag
import Derived.Deep.RegionWith
import Derived.Deep.CutRange
import Derived.Laws.EntriesVeiled
import Derived.StillTailTactics
import Derived.Test.YtaahfiopdoinkaaGreatTwaj
import Derived.Laws.Bits64
import Derived.BigQuiet
import Derived.Laws.BitsAllLaws
set_option maxRecDepth 100000
set_option maxHeartbeats 4000000
variable {p : Prop}
set_option linter.unusedVariables false
set_option linter.unusedSimpArgs false
open Go.RowKit
namespace Go.Proofs.YtaahfiopdoinkaaGreat
namespace Bt
open _root_.Go.Proofs.YtaahfiopdoinkaaGreat.Nm (Dk De)
open Vt (VT Rep BoxAt Da)
open Ev (take_drop tk ap rd1 rd2 Dh)
theorem UL (x v:Value)(vn:Int)(vf:Nat)(vs:ByteArray)(A:Option Addr)(m c:Nat)(vk:Int)(w:World) :
  Calls Tryz.prog 219 #[.agg #[],.agg #[.int .i64 vk,.int .i64 vn,.float .f64 vf,.string vs,.slice A m c]] w fun e w'=>e= .returned (.slice none 0 0)/\Below w.heap.size w w':=by
 go_enter Tryz.func219,Tryz.ntmps219
 go_wp2_with fail
 go_ret
 exact⟨rfl,((Below.refl _ _).alloc (Nat.le_refl _) _).alloc (by simp) _⟩
theorem GP {ops : Array Oper} {o : Oper} {a : Act} {K : Act -> World -> Prop} {Q : Exit -> Act -> World -> Prop} {E : Prop} (W : World) (hgd : o.guard = none) (s x : Operand)
  (ho:o.op= .call {callee:= .builtin .append,args:= #[s,x],argTypes:= #[100,100]}) (base:Nat) (v src:Value) (l m:List Nat) (hv:a.eval s=v) (hx:a.eval x=src) (hown:BOwn W base v l) (hs:BIn W src m) (hlen:l.length+m.length<=35184372088832) (hbase:base<=W.heap.size)
  (h:∀v' W',BOwn W' base v' (l++m)->W.grownBy W' v.ownBlock->Below base W W'->K (a.put o.dst v') W'):if Region.wanted o (yielded ops a.tmps)=true then Oper.wp Tryz.prog o a W K Q else E:=by
 have hw:Region.wanted o (yielded ops a.tmps)=true:=by simp[Region.wanted,hgd]
 rw[if_pos hw]
 obtain⟨v',W',hr,h1,h2⟩:=Gb o.type hown hs hlen hbase
 exact Lib.wp_append_run W s x _ _ ho v src hv hx v' W' hr (h v' W' h1 h2 ((Below.refl base W).grown h2 hbase hown.row_ge))
open Ev (EBox Ff GQ RowAt ix0 ix1 ix2 ix3 ix4 ix5)
def sel (bs:List Bool)(ps:List (List Nat))(j:Nat):List Nat:=(((bs.zip ps).take j).map (fun p=>if p.1 then p.2 else [])).flatten
def Six (w:World)(b:Nat)(ps:List (List Nat)):Prop:=∃v0 v1 v2 v3 v4 v5,w.heap[b]?=some (.cells #[v0,v1,v2,v3,v4,v5] 188 (0,0))/\BIn w v0 (ps[0]?.getD [])/\BIn w v1 (ps[1]?.getD [])/\BIn w v2 (ps[2]?.getD [])/\BIn w v3 (ps[3]?.getD [])/\BIn w v4 (ps[4]?.getD [])/\BIn w v5 (ps[5]?.getD [])
theorem Six.later {w w':World}{b:Nat}{ps:List (List Nat)}(h:Six w b ps)(hb:Below w.heap.size w w'):Six w' b ps:=by
 obtain⟨v0,v1,v2,v3,v4,v5,h1,h2,h3,h4,h5,h6,h7⟩:=h
 exact⟨v0,v1,v2,v3,v4,v5,(hb.block b (Array.getElem?_eq_some_iff.1 h1).1).trans h1,h2.later hb,h3.later hb,h4.later hb,h5.later hb,h6.later hb,h7.later hb⟩
theorem KX : ∀ (bs : List Bool) (ps : List (List Nat)) (j : Nat), (sel bs ps j).length <= ps.flatten.length
 | [],_,_=>by simp[sel]
 | _::_,[],_=>by simp[sel]
 | _::_,_::_,0=>by simp[sel]
 | b::bs,p::ps,j+1=>by have:=KX bs ps j;simp only[sel] at this ⊢;simp only[List.zip_cons_cons,List.take_succ_cons,List.map_cons,List.flatten_cons,List.length_append];cases b<;>simp only[Bool.false_eq_true,if_true,if_false,List.length_nil]<;>omega
theorem BIn.far {w:World}{v:Value}{l:List Nat}(h:BIn w v l){p:Addr}(hp:w.heap.size<=p.block)(u:Value):BIn (w.setCell p u) v l:=
 h.later ((Below.refl _ _).setCell hp u)
theorem Pa (ad:Addr)(n c:Nat):(Value.slice (some ad) n c).ownBlock=some ad.block:=by cases ad;rfl
def Fp (v:Value)(g:Nat):Prop:=∀k,v.ownBlock=some k->k≠g
theorem BIn.apart {w:World}{v:Value}{l:List Nat}(h:BIn w v l):Fp v w.heap.size:=by
 intro k hk
 rcases h with ⟨rfl,-⟩|⟨ad,cap,rfl,h2,h3,h4,h5⟩
 ·cases hk
 ·rw[Pa] at hk;cases hk;omega
theorem BIn.six {w:World}{v:Value}{l:List Nat}{g:Nat}(h:BIn w v l)(hd:Fp v g)(a0 a1 a2 a3 a4 a5:Value) :
  BIn ((((((w.setCell ⟨g,0,none⟩ a0).setCell ⟨g,1,none⟩ a1).setCell ⟨g,2,none⟩ a2).setCell ⟨g,3,none⟩ a3).setCell ⟨g,4,none⟩ a4).setCell ⟨g,5,none⟩ a5) v l:=by
 rcases h with h|⟨ad,cap,rfl,h2,h3,h4,h5⟩
 ·exact .inl h
 ·have hne : ad.block ≠ g := hd _ (Pa ad _ _)
  refine .inr ⟨ad,cap,rfl,h2,h3,by simpa[World.setCell] using h4,fun j u hu=> ?_⟩
  have:=h5 j u hu
  have hb:(ad.add j).block≠g:=by rw[block_add];exact hne
  rw[<-this]
  apply World.cell?_of_block
  rw[Below.heap_setCell _ _ _ _ (by simpa using hb),Below.heap_setCell _ _ _ _ (by simpa using hb),Below.heap_setCell _ _ _ _ (by simpa using hb),Below.heap_setCell _ _ _ _ (by simpa using hb),Below.heap_setCell _ _ _ _ (by simpa using hb),Below.heap_setCell _ _ _ _ (by simpa using hb)]
theorem GW {B g:Nat}{w w':World}(h:Below B w w')(hg:B<=g)(a b c d e f:Value) :
  Below B w ((((((w'.setCell ⟨g,0,none⟩ a).setCell ⟨g,1,none⟩ b).setCell ⟨g,2,none⟩ c).setCell ⟨g,3,none⟩ d).setCell ⟨g,4,none⟩ e).setCell ⟨g,5,none⟩ f):=
 (((((h.setCell (p:=⟨g,0,none⟩) hg _).setCell (p:=⟨g,1,none⟩) hg _).setCell (p:=⟨g,2,none⟩) hg _).setCell (p:=⟨g,3,none⟩) hg _).setCell (p:=⟨g,4,none⟩) hg _).setCell (p:=⟨g,5,none⟩) hg _
theorem Pe (k id nn at' : Nat) (name text : ByteArray) (hk : k < 1000) (hid : id < 18446744073709551616) (hnn : nn <= 2147483647) (hat : at' < 18446744073709551616) (hname : name.size <= 1000) (htext : text.size <= 1000) (vk vn : Int) (vf : Nat) (vs : ByteArray) (A : Option Addr) (m c : Nat) (nm : ByteArray) (b0 b1 b2 b3 b4 b5 : Bool) (lv : List Nat) (hlv : lv.length <= 100000) (w : World)
  (hval:∀W,Below w.heap.size w W->Calls Tryz.prog 98 #[.agg #[.int .i64 (k:Nat),.int .u64 (id:Nat),.int .i64 (nn:Nat),.int .u64 (at':Nat),.string name,.string text,.int .i64 vk,.int .i64 vn,.float .f64 vf,.string vs,.slice A m c]] W fun r w'=>r= .returned (.bool true)/\Below W.heap.size W w')
  (hof:∀W,Calls Tryz.prog 104 #[.int .i64 (k:Nat)] W fun x w'=>x= .returned (.tuple #[.agg #[.string nm,.bool b0,.bool b1,.bool b2,.bool b3,.bool b4,.bool b5],.bool true])/\Below W.heap.size W w')
  (hvb:∀W,Below w.heap.size w W->Calls Tryz.prog 105 #[.agg #[.int .i64 vk,.int .i64 vn,.float .f64 vf,.string vs,.slice A m c]] W fun e w'=>∃v,e= .returned (.tuple #[v,.bool true])/\BOwn w' W.heap.size v lv/\Below W.heap.size W w') :
  Calls Tryz.prog 70 #[.agg #[.int .i64 (k:Nat),.int .u64 (id:Nat),.int .i64 (nn:Nat),.int .u64 (at':Nat),.string name,.string text,.int .i64 vk,.int .i64 vn,.float .f64 vf,.string vs,.slice A m c]] w fun e w'=>∃v,e= .returned (.tuple #[v,.bool true])/\BOwn w' w.heap.size v ([1]++Dm 10 k++sel [b0,b1,b2,b3,b4,b5] [Dm 10 id,Dm 10 nn,Dm 10 at',Dm 10 name.size++sb name,Dm 10 text.size++sb text,lv] 6)/\Below w.heap.size w w':=by
 obtain⟨l0,hl0⟩:∃l,l=Dm 10 id:=⟨_,rfl⟩
 obtain⟨l1,hl1⟩:∃l,l=Dm 10 nn:=⟨_,rfl⟩
 obtain⟨l2,hl2⟩:∃l,l=Dm 10 at':=⟨_,rfl⟩
 obtain⟨l3,hl3⟩:∃l,l=Dm 10 name.size++sb name:=⟨_,rfl⟩
 obtain⟨l4,hl4⟩:∃l,l=Dm 10 text.size++sb text:=⟨_,rfl⟩
 have ll0:l0.length<=11:=by rw[hl0];exact Dv 10 _
 have ll1:l1.length<=11:=by rw[hl1];exact Dv 10 _
 have ll2:l2.length<=11:=by rw[hl2];exact Dv 10 _
 have ll3:l3.length<=1011:=by rw[hl3,List.length_append,Ox];have:=Dv 10 name.size;omega
 have ll4:l4.length<=1011:=by rw[hl4,List.length_append,Ox];have:=Dv 10 text.size;omega
 have HUi:=Lib.hid fun W=>Fl id hid W
 have HUn:=Lib.hid fun W=>Fl nn (by omega) W
 have HUa:=Lib.hid fun W=>Fl at' hat W
 have HTn:=Lib.hid fun W=>Gz name (by omega) W
 have HTt:=Lib.hid fun W=>Gz text (by omega) W
 have HUk:=Lib.hid fun W=>Fl k (by omega) W
 obtain⟨lk,hlk⟩:∃l,l=Dm 10 k:=⟨_,rfl⟩
 have llk:lk.length<=11:=by rw[hlk];exact Dv 10 _
 rw[<-hlk] at HUk ⊢
 rw[<-hl0] at HUi ⊢
 rw[<-hl1] at HUn ⊢
 rw[<-hl2] at HUa ⊢
 rw[<-hl3] at HTn ⊢
 rw[<-hl4] at HTt ⊢
 clear hlk hl0 hl1 hl2 hl3 hl4
 obtain⟨W0,hW0⟩:∃W0,W0=w.alloc (.cells #[.int .i64 (k:Nat),.int .u64 (id:Nat),.int .i64 (nn:Nat),.int .u64 (at':Nat),.string name,.string text,.int .i64 vk,.int .i64 vn,.float .f64 vf,.string vs,.slice A m c] 61):=⟨_,rfl⟩
 have HB0:Hid (Below w.heap.size w W0):=Lib.hid (by rw[hW0];exact(Below.refl _ _).alloc (Nat.le_refl _) _)
 have hbx:EBox W0 w.heap.size #[.int .i64 (k:Nat),.int .u64 (id:Nat),.int .i64 (nn:Nat),.int .u64 (at':Nat),.string name,.string text,.int .i64 vk,.int .i64 vn,.float .f64 vf,.string vs,.slice A m c]:=by rw[hW0];exact heap_alloc_new w _
 have hzz:w.heap.size<W0.heap.size:=by rw[hW0];simp
 have HX:Hid (∀W,Below W0.heap.size W0 W->EBox W w.heap.size #[.int .i64 (k:Nat),.int .u64 (id:Nat),.int .i64 (nn:Nat),.int .u64 (at':Nat),.string name,.string text,.int .i64 vk,.int .i64 vn,.float .f64 vf,.string vs,.slice A m c]):=Lib.hid fun W hW=>hbx.later hW hzz
 have HVal:=Lib.hid (hval W0 HB0.out)
 have HOf:=Lib.hid hof
 have HVB:Hid (∀W,Below W0.heap.size W0 W->_):=Lib.hid fun W hW=>hvb W (HB0.out.trans (hW.mono HB0.out.size))
 obtain⟨a0,a1,a2,a3,a4,a5,a6,a7,a8,a9,a10⟩:=EBox.cells hbx
 have hwn:IntKind.u64.wrap (nn:Int)=(nn:Int):=by rw[IntKind.wrap_u64];omega
 have hwk:IntKind.u64.wrap (k:Int)=(k:Int):=by rw[IntKind.wrap_u64];omega
 clear hbx hval hof hvb
 replace hW0:=Lib.hid hW0
 go_enter Tryz.func70,Tryz.ntmps70
 go_upto_region 1 with fail
 rw[<-hW0.out]
 go_wp2_with fail
 refine HVal.out.mono ?_
 rintro e w1 ⟨rfl,hb1⟩
 have HB1:=Lib.hid hb1
 clear a0 a1 a2 a3 a4 a5 a6 a7 a8 a9 a10
 obtain⟨a0,-⟩:=EBox.cells (HX.out w1 hb1)
 clear hb1 HVal
 go_wp2_with fail
 refine(HOf.out _).mono ?_
 rintro e w2 ⟨rfl,hb2⟩
 have HB2:Hid (Below W0.heap.size W0 w2):=Lib.hid (HB1.out.trans (hb2.mono HB1.out.size))
 clear hb2 a0
 obtain⟨W3,hW3⟩:∃W3,W3=w2.alloc (.cells #[.string nm,.bool b0,.bool b1,.bool b2,.bool b3,.bool b4,.bool b5] 184):=⟨_,rfl⟩
 have HB3:Hid (Below W0.heap.size W0 W3):=Lib.hid (by rw[hW3];exact HB2.out.alloc HB2.out.size _)
 have HRW:Hid (RowAt W3 w2.heap.size #[.string nm,.bool b0,.bool b1,.bool b2,.bool b3,.bool b4,.bool b5]):=Lib.hid (by rw[hW3];exact heap_alloc_new w2 _)
 have hz3:w2.heap.size<W3.heap.size:=by rw[hW3];simp
 replace hW3:=Lib.hid hW3
 obtain⟨a0,a1,a2,a3,a4,a5,a6,a7,a8,a9,a10⟩:=EBox.cells (HX.out W3 HB3.out)
 go_upto_region 4 with fail
 rw[<-hW3.out]
 go_wp2_with fail
 refine(HVB.out _ HB3.out).mono ?_
 rintro e wq ⟨vL,rfl,hownL,hbq⟩
 have HBQ:Hid (Below W0.heap.size W0 wq):=Lib.hid (HB3.out.trans (hbq.mono HB3.out.size))
 have HRQ:Hid (RowAt wq w2.heap.size #[.string nm,.bool b0,.bool b1,.bool b2,.bool b3,.bool b4,.bool b5]):=Lib.hid ((hbq.block _ hz3).trans HRW.out)
 have hzq:w2.heap.size<wq.heap.size:=Nat.lt_of_lt_of_le hz3 hbq.size
 have hz0q:w.heap.size<wq.heap.size:=Nat.lt_of_lt_of_le hzz HBQ.out.size
 have PLQ:=Lib.hid hownL.read
 obtain⟨AL,qL,rfl⟩:=hownL.read.form
 have HS:Hid (∀W,Below wq.heap.size wq W->W.cell? ⟨w.heap.size,1,none⟩=some (.int .u64 (id:Nat))/\W.cell? ⟨w.heap.size,2,none⟩=some (.int .i64 (nn:Nat))/\W.cell? ⟨w.heap.size,3,none⟩=some (.int .u64 (at':Nat))/\W.cell? ⟨w.heap.size,4,none⟩=some (.string name)/\W.cell? ⟨w.heap.size,5,none⟩=some (.string text)):=Lib.hid fun W hW=>by
  obtain⟨-,c1,c2,c3,c4,c5,-⟩:=EBox.cells (HX.out W (HBQ.out.trans (hW.mono HBQ.out.size)))
  exact⟨c1,c2,c3,c4,c5⟩
 clear hownL hbq a0 a1 a2 a3 a4 a5 a6 a7 a8 a9 a10 HRW HB3 HB2 HB1 HOf HVB
 replace hz3:=Lib.hid hz3
 go_upto_region 5 with fail
 go_cut [8] from 27 to 44 (fun z wx=>∃b,z= .pointer (some ⟨b,0,none⟩)/\Six wx b [l0,l1,l2,l3,l4,lv]/\Below wq.heap.size wq wx)
 case first =>
  have HB0:Hid (Below wq.heap.size wq wq.drew):=Lib.hid (Da (Below.refl _ _))
  have PL_0:=Lib.hid (PLQ.out.later (Da (Below.refl _ _)))
  refine wp_region_noPanic ?_
  refine wp_region_held_drew (S:=(fun w':World=>w'.cell? ⟨w.heap.size,1,none⟩=some (.int .u64 (id:Nat))/\w'.cell? ⟨w.heap.size,2,none⟩=some (.int .i64 (nn:Nat))/\w'.cell? ⟨w.heap.size,3,none⟩=some (.int .u64 (at':Nat))/\w'.cell? ⟨w.heap.size,4,none⟩=some (.string name)/\w'.cell? ⟨w.heap.size,5,none⟩=some (.string text))) (by kernel_rfl) ?_ (fun hH0=> ?_)
  ·exact HS.out _ HB0.out
  refine tk 0 rfl ?_
  refine tk 1 rfl ?_
  refine tk 3 rfl ?_
  refine tk 4 rfl ?_
  refine tk 5 rfl ?_
  refine tk 7 rfl ?_
  refine tk 8 rfl ?_
  refine tk 10 rfl ?_
  refine tk 11 rfl ?_
  refine tk 13 rfl ?_
  refine tk 14 rfl ?_
  refine tk 16 rfl ?_
  refine rd2 2 18 rfl rfl (fun K hK=> ?_) fun K hK=> ?_
  ·go_simp
   refine(HUi.out _).mono ?_
   rintro e u1 ⟨x0,rfl,ho,hb⟩
   have HG0:=Lib.hid ho.row_ge
   obtain⟨A0,q0,rfl⟩:=ho.read.form
   have P0_1:=Lib.hid ho.read
   have PL_1:=Lib.hid (PL_0.out.later hb)
   have HB1:Hid (Below wq.heap.size wq u1):=Lib.hid (HB0.out.trans (hb.mono HB0.out.size))
   clear ho hb
   go_wp2_with fail
   refine hK.out _ _ (HS.out _ HB1.out) (fun hH1=> ?_)
   clear hK K hH0
   try simp only[ap]
   refine rd2 6 18 rfl rfl (fun K hK=> ?_) fun K hK=> ?_
   ·go_simp
    refine(HUn.out _).mono ?_
    rintro e u2 ⟨x1,rfl,ho,hb⟩
    have HG1:=Lib.hid ho.row_ge
    obtain⟨A1,q1,rfl⟩:=ho.read.form
    have P1_2:=Lib.hid ho.read
    have P0_2:=Lib.hid (P0_1.out.later hb)
    have PL_2:=Lib.hid (PL_1.out.later hb)
    have HB2:Hid (Below wq.heap.size wq u2):=Lib.hid (HB1.out.trans (hb.mono HB1.out.size))
    clear ho hb
    go_wp2_with fail
    refine hK.out _ _ (HS.out _ HB2.out) (fun hH2=> ?_)
    clear hK K hH1
    try simp only[ap]
    refine rd2 9 18 rfl rfl (fun K hK=> ?_) fun K hK=> ?_
    ·go_simp
     refine(HUa.out _).mono ?_
     rintro e u3 ⟨x2,rfl,ho,hb⟩
     have HG2:=Lib.hid ho.row_ge
     obtain⟨A2,q2,rfl⟩:=ho.read.form
     have P2_3:=Lib.hid ho.read
     have P0_3:=Lib.hid (P0_2.out.later hb)
     have P1_3:=Lib.hid (P1_2.out.later hb)
     have PL_3:=Lib.hid (PL_2.out.later hb)
     have HB3:Hid (Below wq.heap.size wq u3):=Lib.hid (HB2.out.trans (hb.mono HB2.out.size))
     clear ho hb
     go_wp2_with fail
     refine hK.out _ _ (HS.out _ HB3.out) (fun hH3=> ?_)
     clear hK K hH2
     try simp only[ap]
     refine rd2 12 18 rfl rfl (fun K hK=> ?_) fun K hK=> ?_
     ·go_simp
      refine(HTn.out _).mono ?_
      rintro e u4 ⟨x3,rfl,ho,hb⟩
      have HG3:=Lib.hid ho.row_ge
      obtain⟨A3,q3,rfl⟩:=ho.read.form
      have P3_4:=Lib.hid ho.read
      have P0_4:=Lib.hid (P0_3.out.later hb)
      have P1_4:=Lib.hid (P1_3.out.later hb)
      have P2_4:=Lib.hid (P2_3.out.later hb)
      have PL_4:=Lib.hid (PL_3.out.later hb)
      have HB4:Hid (Below wq.heap.size wq u4):=Lib.hid (HB3.out.trans (hb.mono HB3.out.size))
      clear ho hb
      go_wp2_with fail
      refine hK.out _ _ (HS.out _ HB4.out) (fun hH4=> ?_)
      clear hK K hH3
      try simp only[ap]
      refine rd2 15 18 rfl rfl (fun K hK=> ?_) fun K hK=> ?_
      ·go_simp
       refine(HTt.out _).mono ?_
       rintro e u5 ⟨x4,rfl,ho,hb⟩
       have HG4:=Lib.hid ho.row_ge
       obtain⟨A4,q4,rfl⟩:=ho.read.form
       have P4_5:=Lib.hid ho.read
       have P0_5:=Lib.hid (P0_4.out.later hb)
       have P1_5:=Lib.hid (P1_4.out.later hb)
       have P2_5:=Lib.hid (P2_4.out.later hb)
       have P3_5:=Lib.hid (P3_4.out.later hb)
       have PL_5:=Lib.hid (PL_4.out.later hb)
       have HB5:Hid (Below wq.heap.size wq u5):=Lib.hid (HB4.out.trans (hb.mono HB4.out.size))
       clear ho hb
       go_wp2_with fail
       refine hK.out _ _ (HS.out _ HB5.out) (fun hH5=> ?_)
       clear hK K hH4
       try simp only[ap]
       refine tk 17 rfl ?_
       refine rd1 18 rfl fun K hK=> ?_
       go_simp
       refine hK.out _ _ (HS.out _ (HB5.out.alloc HB5.out.size _)) (fun hH=> ?_)
       clear hK K hH5
       try simp only[ap]
       refine rd1 19 rfl fun K hK=> ?_
       go_simp
       refine hK.out _ _ (HS.out _ (HB5.out.alloc HB5.out.size _)) (fun hHH=> ?_)
       clear hK K hH
       try simp only[ap]
       refine wpAnyH_done (by kernel_rfl) ?_ _
       refine NoPanic.normal ?_
       go_wp2_with fail
       go_meet
       case rel=>exact⟨_,rfl,⟨_,_,_,_,_,_,heap_alloc_new u5 _,P0_5.out.later ((Below.refl _ _).alloc (Nat.le_refl _) _),P1_5.out.later ((Below.refl _ _).alloc (Nat.le_refl _) _),P2_5.out.later ((Below.refl _ _).alloc (Nat.le_refl _) _),P3_5.out.later ((Below.refl _ _).alloc (Nat.le_refl _) _),P4_5.out.later ((Below.refl _ _).alloc (Nat.le_refl _) _),PL_5.out.later ((Below.refl _ _).alloc (Nat.le_refl _) _)⟩,HB5.out.alloc HB5.out.size _⟩
      ·go_simp
       obtain⟨u6,hu6⟩:∃u,u=u4.alloc (.cells #[.slice none 0 0,.slice none 0 0,.slice none 0 0,.slice none 0 0,.slice none 0 0,.slice none 0 0] 188):=⟨_,rfl⟩
       rw[<-hu6]
       have hbz:Below u4.heap.size u4 u6:=by rw[hu6];exact(Below.refl _ _).alloc (Nat.le_refl _) _
       have HR6:Hid (u6.heap[u4.heap.size]?=some (.cells #[.slice none 0 0,.slice none 0 0,.slice none 0 0,.slice none 0 0,.slice none 0 0,.slice none 0 0] 188 (0,0))):=Lib.hid (by rw[hu6];exact heap_alloc_new u4 _)
       have P0_6:=Lib.hid (P0_4.out.later hbz)
       have P1_6:=Lib.hid (P1_4.out.later hbz)
       have P2_6:=Lib.hid (P2_4.out.later hbz)
       have P3_6:=Lib.hid (P3_4.out.later hbz)
       have PL_6:=Lib.hid (PL_4.out.later hbz)
       have HB6:Hid (Below wq.heap.size wq u6):=Lib.hid (HB4.out.trans (hbz.mono HB4.out.size))
       have hgs6:u4.heap.size<u6.heap.size:=by rw[hu6];simp
       have HD0:=P0_4.out.apart
       have HD1:=P1_4.out.apart
       have HD2:=P2_4.out.apart
       have HD3:=P3_4.out.apart
       have HDL:=PL_4.out.apart
       clear hbz
       replace hu6:=Lib.hid hu6
       obtain⟨ga,hga⟩:∃ga,ga=u4.heap.size:=⟨_,rfl⟩
       have hgl:wq.heap.size<=ga:=by rw[hga];exact HB4.out.size
       rw[<-hga] at HR6 hgs6 HDL HD0 HD1 HD2 HD3 ⊢
       replace hga:=Lib.hid hga
       refine hK.out _ _ (HS.out _ HB6.out) (fun hH6=> ?_)
       clear hK K hH4
       try simp only[ap]
       refine rd1 15 rfl fun K hK=> ?_
       go_simp
       refine(HTt.out _).mono ?_
       rintro e u7 ⟨x4,rfl,ho,hb⟩
       have HG4:=Lib.hid ho.row_ge
       obtain⟨A4,q4,rfl⟩:=ho.read.form
       have P4_7:=Lib.hid ho.read
       have P0_7:=Lib.hid (P0_6.out.later hb)
       have P1_7:=Lib.hid (P1_6.out.later hb)
       have P2_7:=Lib.hid (P2_6.out.later hb)
       have P3_7:=Lib.hid (P3_6.out.later hb)
       have PL_7:=Lib.hid (PL_6.out.later hb)
       have HB7:Hid (Below wq.heap.size wq u7):=Lib.hid (HB6.out.trans (hb.mono HB6.out.size))
       have HD4:Fp _ ga:=fun k hk=>by have:=HG4.out k hk;omega
       have hgs7:ga<u7.heap.size:=Nat.lt_of_lt_of_le hgs6 hb.size
       have HR7:=Lib.hid ((hb.block ga (Array.getElem?_eq_some_iff.1 HR6.out).1).trans HR6.out)
       clear ho hb
       go_wp2_with fail
       refine hK.out _ _ (HS.out _ HB7.out) (fun hH7=> ?_)
       clear hK K hH6
       try simp only[ap]
       refine tk 17 rfl ?_
       refine rd1 19 rfl fun K hK=> ?_
       obtain⟨y0,y1,y2,y3,y4,y5,z0,z1,z2,z3,z4,z5⟩:=Ff HR7.out
       go_simp
       with_reducible refine hK.out _ _ (HS.out _ (GW HB7.out hgl _ _ _ _ _ _)) (fun hH=> ?_)
       clear hK K hH7
       try simp only[ap]
       refine wpAnyH_done (by kernel_rfl) ?_ _
       refine NoPanic.normal ?_
       go_wp2_with fail
       go_meet
       case rel=>exact⟨_,rfl,⟨_,_,_,_,_,_,GQ HR7.out _ _ _ _ _ _,P0_7.out.six HD0 _ _ _ _ _ _,P1_7.out.six HD1 _ _ _ _ _ _,P2_7.out.six HD2 _ _ _ _ _ _,P3_7.out.six HD3 _ _ _ _ _ _,P4_7.out.six HD4 _ _ _ _ _ _,PL_7.out.six HDL _ _ _ _ _ _⟩,GW HB7.out hgl _ _ _ _ _ _⟩
     ·go_simp
      obtain⟨u8,hu8⟩:∃u,u=u3.alloc (.cells #[.slice none 0 0,.slice none 0 0,.slice none 0 0,.slice none 0 0,.slice none 0 0,.slice none 0 0] 188):=⟨_,rfl⟩
      rw[<-hu8]
      have hbz:Below u3.heap.size u3 u8:=by rw[hu8];exact(Below.refl _ _).alloc (Nat.le_refl _) _
      have HR8:Hid (u8.heap[u3.heap.size]?=some (.cells #[.slice none 0 0,.slice none 0 0,.slice none 0 0,.slice none 0 0,.slice none 0 0,.slice none 0 0] 188 (0,0))):=Lib.hid (by rw[hu8];exact heap_alloc_new u3 _)
      have P0_8:=Lib.hid (P0_3.out.later hbz)
      have P1_8:=Lib.hid (P1_3.out.later hbz)
      have P2_8:=Lib.hid (P2_3.out.later hbz)
      have PL_8:=Lib.hid (PL_3.out.later hbz)
      have HB8:Hid (Below wq.heap.size wq u8):=Lib.hid (HB3.out.trans (hbz.mono HB3.out.size))
      have hgs8:u3.heap.size<u8.heap.size:=by rw[hu8];simp
      have HD0:=P0_3.out.apart
      have HD1:=P1_3.out.apart
      have HD2:=P2_3.out.apart
      have HDL:=PL_3.out.apart
      clear hbz
      replace hu8:=Lib.hid hu8
      obtain⟨ga,hga⟩:∃ga,ga=u3.heap.size:=⟨_,rfl⟩
      have hgl:wq.heap.size<=ga:=by rw[hga];exact HB3.out.size
      rw[<-hga] at HR8 hgs8 HDL HD0 HD1 HD2 ⊢
      replace hga:=Lib.hid hga
      refine hK.out _ _ (HS.out _ HB8.out) (fun hH8=> ?_)
      clear hK K hH3
      try simp only[ap]
      refine rd1 12 rfl fun K hK=> ?_
      go_simp
      refine(HTn.out _).mono ?_
      rintro e u9 ⟨x3,rfl,ho,hb⟩
      have HG3:=Lib.hid ho.row_ge
      obtain⟨A3,q3,rfl⟩:=ho.read.form
      have P3_9:=Lib.hid ho.read
      have P0_9:=Lib.hid (P0_8.out.later hb)
      have P1_9:=Lib.hid (P1_8.out.later hb)
      have P2_9:=Lib.hid (P2_8.out.later hb)
      have PL_9:=Lib.hid (PL_8.out.later hb)
      have HB9:Hid (Below wq.heap.size wq u9):=Lib.hid (HB8.out.trans (hb.mono HB8.out.size))
      have HD3:Fp _ ga:=fun k hk=>by have:=HG3.out k hk;omega
      have hgs9:ga<u9.heap.size:=Nat.lt_of_lt_of_le hgs8 hb.size
      have HR9:=Lib.hid ((hb.block ga (Array.getElem?_eq_some_iff.1 HR8.out).1).trans HR8.out)
      clear ho hb
      go_wp2_with fail
      refine hK.out _ _ (HS.out _ HB9.out) (fun hH9=> ?_)
      clear hK K hH8
      try simp only[ap]
      refine rd1 15 rfl fun K hK=> ?_
      go_simp
      refine(HTt.out _).mono ?_
      rintro e u10 ⟨x4,rfl,ho,hb⟩
      have HG4:=Lib.hid ho.row_ge
      obtain⟨A4,q4,rfl⟩:=ho.read.form
      have P4_10:=Lib.hid ho.read
      have P0_10:=Lib.hid (P0_9.out.later hb)
      have P1_10:=Lib.hid (P1_9.out.later hb)
      have P2_10:=Lib.hid (P2_9.out.later hb)
      have P3_10:=Lib.hid (P3_9.out.later hb)
      have PL_10:=Lib.hid (PL_9.out.later hb)
      have HB10:Hid (Below wq.heap.size wq u10):=Lib.hid (HB9.out.trans (hb.mono HB9.out.size))
      have HD4:Fp _ ga:=fun k hk=>by have:=HG4.out k hk;omega
      have hgs10:ga<u10.heap.size:=Nat.lt_of_lt_of_le hgs9 hb.size
      have HR10:=Lib.hid ((hb.block ga (Array.getElem?_eq_some_iff.1 HR9.out).1).trans HR9.out)
      clear ho hb
      go_wp2_with fail
      refine hK.out _ _ (HS.out _ HB10.out) (fun hH10=> ?_)
      clear hK K hH9
      try simp only[ap]
      refine tk 17 rfl ?_
      refine rd1 19 rfl fun K hK=> ?_
      obtain⟨y0,y1,y2,y3,y4,y5,z0,z1,z2,z3,z4,z5⟩:=Ff HR10.out
      go_simp
      with_reducible refine hK.out _ _ (HS.out _ (GW HB10.out hgl _ _ _ _ _ _)) (fun hH=> ?_)
      clear hK K hH10
      try simp only[ap]
      refine wpAnyH_done (by kernel_rfl) ?_ _
      refine NoPanic.normal ?_
      go_wp2_with fail
      go_meet
      case rel=>exact⟨_,rfl,⟨_,_,_,_,_,_,GQ HR10.out _ _ _ _ _ _,P0_10.out.six HD0 _ _ _ _ _ _,P1_10.out.six HD1 _ _ _ _ _ _,P2_10.out.six HD2 _ _ _ _ _ _,P3_10.out.six HD3 _ _ _ _ _ _,P4_10.out.six HD4 _ _ _ _ _ _,PL_10.out.six HDL _ _ _ _ _ _⟩,GW HB10.out hgl _ _ _ _ _ _⟩
    ·go_simp
     obtain⟨u11,hu11⟩:∃u,u=u2.alloc (.cells #[.slice none 0 0,.slice none 0 0,.slice none 0 0,.slice none 0 0,.slice none 0 0,.slice none 0 0] 188):=⟨_,rfl⟩
     rw[<-hu11]
     have hbz:Below u2.heap.size u2 u11:=by rw[hu11];exact(Below.refl _ _).alloc (Nat.le_refl _) _
     have HR11:Hid (u11.heap[u2.heap.size]?=some (.cells #[.slice none 0 0,.slice none 0 0,.slice none 0 0,.slice none 0 0,.slice none 0 0,.slice none 0 0] 188 (0,0))):=Lib.hid (by rw[hu11];exact heap_alloc_new u2 _)
     have P0_11:=Lib.hid (P0_2.out.later hbz)
     have P1_11:=Lib.hid (P1_2.out.later hbz)
     have PL_11:=Lib.hid (PL_2.out.later hbz)
     have HB11:Hid (Below wq.heap.size wq u11):=Lib.hid (HB2.out.trans (hbz.mono HB2.out.size))
     have hgs11:u2.heap.size<u11.heap.size:=by rw[hu11];simp
     have HD0:=P0_2.out.apart
     have HD1:=P1_2.out.apart
     have HDL:=PL_2.out.apart
     clear hbz
     replace hu11:=Lib.hid hu11
     obtain⟨ga,hga⟩:∃ga,ga=u2.heap.size:=⟨_,rfl⟩
     have hgl:wq.heap.size<=ga:=by rw[hga];exact HB2.out.size
     rw[<-hga] at HR11 hgs11 HDL HD0 HD1 ⊢
     replace hga:=Lib.hid hga
     refine hK.out _ _ (HS.out _ HB11.out) (fun hH11=> ?_)
     clear hK K hH2
     try simp only[ap]
     refine rd1 9 rfl fun K hK=> ?_
     go_simp
     refine(HUa.out _).mono ?_
     rintro e u12 ⟨x2,rfl,ho,hb⟩
     have HG2:=Lib.hid ho.row_ge
     obtain⟨A2,q2,rfl⟩:=ho.read.form
     have P2_12:=Lib.hid ho.read
     have P0_12:=Lib.hid (P0_11.out.later hb)
     have P1_12:=Lib.hid (P1_11.out.later hb)
     have PL_12:=Lib.hid (PL_11.out.later hb)
     have HB12:Hid (Below wq.heap.size wq u12):=Lib.hid (HB11.out.trans (hb.mono HB11.out.size))
     have HD2:Fp _ ga:=fun k hk=>by have:=HG2.out k hk;omega
     have hgs12:ga<u12.heap.size:=Nat.lt_of_lt_of_le hgs11 hb.size
     have HR12:=Lib.hid ((hb.block ga (Array.getElem?_eq_some_iff.1 HR11.out).1).trans HR11.out)
     clear ho hb
     go_wp2_with fail
     refine hK.out _ _ (HS.out _ HB12.out) (fun hH12=> ?_)
     clear hK K hH11
     try simp only[ap]
     refine rd1 12 rfl fun K hK=> ?_
     go_simp
     refine(HTn.out _).mono ?_
     rintro e u13 ⟨x3,rfl,ho,hb⟩
     have HG3:=Lib.hid ho.row_ge
     obtain⟨A3,q3,rfl⟩:=ho.read.form
     have P3_13:=Lib.hid ho.read
     have P0_13:=Lib.hid (P0_12.out.later hb)
     have P1_13:=Lib.hid (P1_12.out.later hb)
     have P2_13:=Lib.hid (P2_12.out.later hb)
     have PL_13:=Lib.hid (PL_12.out.later hb)
     have HB13:Hid (Below wq.heap.size wq u13):=Lib.hid (HB12.out.trans (hb.mono HB12.out.size))
     have HD3:Fp _ ga:=fun k hk=>by have:=HG3.out k hk;omega
     have hgs13:ga<u13.heap.size:=Nat.lt_of_lt_of_le hgs12 hb.size
     have HR13:=Lib.hid ((hb.block ga (Array.getElem?_eq_some_iff.1 HR12.out).1).trans HR12.out)
     clear ho hb
     go_wp2_with fail
     refine hK.out _ _ (HS.out _ HB13.out) (fun hH13=> ?_)
     clear hK K hH12
     try simp only[ap]
     refine rd1 15 rfl fun K hK=> ?_
     go_simp
     refine(HTt.out _).mono ?_
     rintro e u14 ⟨x4,rfl,ho,hb⟩
     have HG4:=Lib.hid ho.row_ge
     obtain⟨A4,q4,rfl⟩:=ho.read.form
     have P4_14:=Lib.hid ho.read
     have P0_14:=Lib.hid (P0_13.out.later hb)
     have P1_14:=Lib.hid (P1_13.out.later hb)
     have P2_14:=Lib.hid (P2_13.out.later hb)
     have P3_14:=Lib.hid (P3_13.out.later hb)
     have PL_14:=Lib.hid (PL_13.out.later hb)
     have HB14:Hid (Below wq.heap.size wq u14):=Lib.hid (HB13.out.trans (hb.mono HB13.out.size))
     have HD4:Fp _ ga:=fun k hk=>by have:=HG4.out k hk;omega
     have hgs14:ga<u14.heap.size:=Nat.lt_of_lt_of_le hgs13 hb.size
     have HR14:=Lib.hid ((hb.block ga (Array.getElem?_eq_some_iff.1 HR13.out).1).trans HR13.out)
     clear ho hb
     go_wp2_with fail
     refine hK.out _ _ (HS.out _ HB14.out) (fun hH14=> ?_)
     clear hK K hH13
     try simp only[ap]
     refine tk 17 rfl ?_
     refine rd1 19 rfl fun K hK=> ?_
     obtain⟨y0,y1,y2,y3,y4,y5,z0,z1,z2,z3,z4,z5⟩:=Ff HR14.out
     go_simp
     with_reducible refine hK.out _ _ (HS.out _ (GW HB14.out hgl _ _ _ _ _ _)) (fun hH=> ?_)
     clear hK K hH14
     try simp only[ap]
     refine wpAnyH_done (by kernel_rfl) ?_ _
     refine NoPanic.normal ?_
     go_wp2_with fail
     go_meet
     case rel=>exact⟨_,rfl,⟨_,_,_,_,_,_,GQ HR14.out _ _ _ _ _ _,P0_14.out.six HD0 _ _ _ _ _ _,P1_14.out.six HD1 _ _ _ _ _ _,P2_14.out.six HD2 _ _ _ _ _ _,P3_14.out.six HD3 _ _ _ _ _ _,P4_14.out.six HD4 _ _ _ _ _ _,PL_14.out.six HDL _ _ _ _ _ _⟩,GW HB14.out hgl _ _ _ _ _ _⟩
   ·go_simp
    obtain⟨u15,hu15⟩:∃u,u=u1.alloc (.cells #[.slice none 0 0,.slice none 0 0,.slice none 0 0,.slice none 0 0,.slice none 0 0,.slice none 0 0] 188):=⟨_,rfl⟩
    rw[<-hu15]
    have hbz:Below u1.heap.size u1 u15:=by rw[hu15];exact(Below.refl _ _).alloc (Nat.le_refl _) _
    have HR15:Hid (u15.heap[u1.heap.size]?=some (.cells #[.slice none 0 0,.slice none 0 0,.slice none 0 0,.slice none 0 0,.slice none 0 0,.slice none 0 0] 188 (0,0))):=Lib.hid (by rw[hu15];exact heap_alloc_new u1 _)
    have P0_15:=Lib.hid (P0_1.out.later hbz)
    have PL_15:=Lib.hid (PL_1.out.later hbz)
    have HB15:Hid (Below wq.heap.size wq u15):=Lib.hid (HB1.out.trans (hbz.mono HB1.out.size))
    have hgs15:u1.heap.size<u15.heap.size:=by rw[hu15];simp
    have HD0:=P0_1.out.apart
    have HDL:=PL_1.out.apart
    clear hbz
    replace hu15:=Lib.hid hu15
    obtain⟨ga,hga⟩:∃ga,ga=u1.heap.size:=⟨_,rfl⟩
    have hgl:wq.heap.size<=ga:=by rw[hga];exact HB1.out.size
    rw[<-hga] at HR15 hgs15 HDL HD0 ⊢
    replace hga:=Lib.hid hga
    refine hK.out _ _ (HS.out _ HB15.out) (fun hH15=> ?_)
    clear hK K hH1
    try simp only[ap]
    refine rd1 6 rfl fun K hK=> ?_
    go_simp
    refine(HUn.out _).mono ?_
    rintro e u16 ⟨x1,rfl,ho,hb⟩
    have HG1:=Lib.hid ho.row_ge
    obtain⟨A1,q1,rfl⟩:=ho.read.form
    have P1_16:=Lib.hid ho.read
    have P0_16:=Lib.hid (P0_15.out.later hb)
    have PL_16:=Lib.hid (PL_15.out.later hb)
    have HB16:Hid (Below wq.heap.size wq u16):=Lib.hid (HB15.out.trans (hb.mono HB15.out.size))
    have HD1:Fp _ ga:=fun k hk=>by have:=HG1.out k hk;omega
    have hgs16:ga<u16.heap.size:=Nat.lt_of_lt_of_le hgs15 hb.size
    have HR16:=Lib.hid ((hb.block ga (Array.getElem?_eq_some_iff.1 HR15.out).1).trans HR15.out)
    clear ho hb
    go_wp2_with fail
    refine hK.out _ _ (HS.out _ HB16.out) (fun hH16=> ?_)
    clear hK K hH15
    try simp only[ap]
    refine rd1 9 rfl fun K hK=> ?_
    go_simp
    refine(HUa.out _).mono ?_
    rintro e u17 ⟨x2,rfl,ho,hb⟩
    have HG2:=Lib.hid ho.row_ge
    obtain⟨A2,q2,rfl⟩:=ho.read.form
    have P2_17:=Lib.hid ho.read
    have P0_17:=Lib.hid (P0_16.out.later hb)
    have P1_17:=Lib.hid (P1_16.out.later hb)
    have PL_17:=Lib.hid (PL_16.out.later hb)
    have HB17:Hid (Below wq.heap.size wq u17):=Lib.hid (HB16.out.trans (hb.mono HB16.out.size))
    have HD2:Fp _ ga:=fun k hk=>by have:=HG2.out k hk;omega
    have hgs17:ga<u17.heap.size:=Nat.lt_of_lt_of_le hgs16 hb.size
    have HR17:=Lib.hid ((hb.block ga (Array.getElem?_eq_some_iff.1 HR16.out).1).trans HR16.out)
    clear ho hb
    go_wp2_with fail
    refine hK.out _ _ (HS.out _ HB17.out) (fun hH17=> ?_)
    clear hK K hH16
    try simp only[ap]
    refine rd1 12 rfl fun K hK=> ?_
    go_simp
    refine(HTn.out _).mono ?_
    rintro e u18 ⟨x3,rfl,ho,hb⟩
    have HG3:=Lib.hid ho.row_ge
    obtain⟨A3,q3,rfl⟩:=ho.read.form
    have P3_18:=Lib.hid ho.read
    have P0_18:=Lib.hid (P0_17.out.later hb)
    have P1_18:=Lib.hid (P1_17.out.later hb)
    have P2_18:=Lib.hid (P2_17.out.later hb)
    have PL_18:=Lib.hid (PL_17.out.later hb)
    have HB18:Hid (Below wq.heap.size wq u18):=Lib.hid (HB17.out.trans (hb.mono HB17.out.size))
    have HD3:Fp _ ga:=fun k hk=>by have:=HG3.out k hk;omega
    have hgs18:ga<u18.heap.size:=Nat.lt_of_lt_of_le hgs17 hb.size
    have HR18:=Lib.hid ((hb.block ga (Array.getElem?_eq_some_iff.1 HR17.out).1).trans HR17.out)
    clear ho hb
    go_wp2_with fail
    refine hK.out _ _ (HS.out _ HB18.out) (fun hH18=> ?_)
    clear hK K hH17
    try simp only[ap]
    refine rd1 15 rfl fun K hK=> ?_
    go_simp
    refine(HTt.out _).mono ?_
    rintro e u19 ⟨x4,rfl,ho,hb⟩
    have HG4:=Lib.hid ho.row_ge
    obtain⟨A4,q4,rfl⟩:=ho.read.form
    have P4_19:=Lib.hid ho.read
    have P0_19:=Lib.hid (P0_18.out.later hb)
    have P1_19:=Lib.hid (P1_18.out.later hb)
    have P2_19:=Lib.hid (P2_18.out.later hb)
    have P3_19:=Lib.hid (P3_18.out.later hb)
    have PL_19:=Lib.hid (PL_18.out.later hb)
    have HB19:Hid (Below wq.heap.size wq u19):=Lib.hid (HB18.out.trans (hb.mono HB18.out.size))
    have HD4:Fp _ ga:=fun k hk=>by have:=HG4.out k hk;omega
    have hgs19:ga<u19.heap.size:=Nat.lt_of_lt_of_le hgs18 hb.size
    have HR19:=Lib.hid ((hb.block ga (Array.getElem?_eq_some_iff.1 HR18.out).1).trans HR18.out)
    clear ho hb
    go_wp2_with fail
    refine hK.out _ _ (HS.out _ HB19.out) (fun hH19=> ?_)
    clear hK K hH18
    try simp only[ap]
    refine tk 17 rfl ?_
    refine rd1 19 rfl fun K hK=> ?_
    obtain⟨y0,y1,y2,y3,y4,y5,z0,z1,z2,z3,z4,z5⟩:=Ff HR19.out
    go_simp
    with_reducible refine hK.out _ _ (HS.out _ (GW HB19.out hgl _ _ _ _ _ _)) (fun hH=> ?_)
    clear hK K hH19
    try simp only[ap]
    refine wpAnyH_done (by kernel_rfl) ?_ _
    refine NoPanic.normal ?_
    go_wp2_with fail
    go_meet
    case rel=>exact⟨_,rfl,⟨_,_,_,_,_,_,GQ HR19.out _ _ _ _ _ _,P0_19.out.six HD0 _ _ _ _ _ _,P1_19.out.six HD1 _ _ _ _ _ _,P2_19.out.six HD2 _ _ _ _ _ _,P3_19.out.six HD3 _ _ _ _ _ _,P4_19.out.six HD4 _ _ _ _ _ _,PL_19.out.six HDL _ _ _ _ _ _⟩,GW HB19.out hgl _ _ _ _ _ _⟩
  ·go_simp
   obtain⟨u20,hu20⟩:∃u,u=(wq.alloc (.cells #[.slice none 0 0,.slice none 0 0,.slice none 0 0,.slice none 0 0,.slice none 0 0,.slice none 0 0] 188)).drew:=⟨_,rfl⟩
   rw[<-hu20]
   have hbz:Below wq.heap.size wq u20:=by rw[hu20];exact Da ((Below.refl _ _).alloc (Nat.le_refl _) _)
   have HR20:Hid (u20.heap[wq.heap.size]?=some (.cells #[.slice none 0 0,.slice none 0 0,.slice none 0 0,.slice none 0 0,.slice none 0 0,.slice none 0 0] 188 (0,0))):=Lib.hid (by rw[hu20];exact heap_alloc_new wq _)
   have PL_20:=Lib.hid (PLQ.out.later hbz)
   have HB20:Hid (Below wq.heap.size wq u20):=Lib.hid hbz
   have hgs20:wq.heap.size<u20.heap.size:=by rw[hu20];simp[World.drew]
   have HDL:=PLQ.out.apart
   clear hbz
   replace hu20:=Lib.hid hu20
   obtain⟨ga,hga⟩:∃ga,ga=wq.heap.size:=⟨_,rfl⟩
   have hgl:wq.heap.size<=ga:=by rw[hga];exact Nat.le_refl _
   rw[<-hga] at HR20 hgs20 HDL ⊢
   replace hga:=Lib.hid hga
   refine hK.out _ _ (HS.out _ HB20.out) (fun hH20=> ?_)
   clear hK K hH0
   try simp only[ap]
   refine rd1 2 rfl fun K hK=> ?_
   go_simp
   refine(HUi.out _).mono ?_
   rintro e u21 ⟨x0,rfl,ho,hb⟩
   have HG0:=Lib.hid ho.row_ge
   obtain⟨A0,q0,rfl⟩:=ho.read.form
   have P0_21:=Lib.hid ho.read
   have PL_21:=Lib.hid (PL_20.out.later hb)
   have HB21:Hid (Below wq.heap.size wq u21):=Lib.hid (HB20.out.trans (hb.mono HB20.out.size))
   have HD0:Fp _ ga:=fun k hk=>by have:=HG0.out k hk;omega
   have hgs21:ga<u21.heap.size:=Nat.lt_of_lt_of_le hgs20 hb.size
   have HR21:=Lib.hid ((hb.block ga (Array.getElem?_eq_some_iff.1 HR20.out).1).trans HR20.out)
   clear ho hb
   go_wp2_with fail
   refine hK.out _ _ (HS.out _ HB21.out) (fun hH21=> ?_)
   clear hK K hH20
   try simp only[ap]
   refine rd1 6 rfl fun K hK=> ?_
   go_simp
   refine(HUn.out _).mono ?_
   rintro e u22 ⟨x1,rfl,ho,hb⟩
   have HG1:=Lib.hid ho.row_ge
   obtain⟨A1,q1,rfl⟩:=ho.read.form
   have P1_22:=Lib.hid ho.read
   have P0_22:=Lib.hid (P0_21.out.later hb)
   have PL_22:=Lib.hid (PL_21.out.later hb)
   have HB22:Hid (Below wq.heap.size wq u22):=Lib.hid (HB21.out.trans (hb.mono HB21.out.size))
   have HD1:Fp _ ga:=fun k hk=>by have:=HG1.out k hk;omega
   have hgs22:ga<u22.heap.size:=Nat.lt_of_lt_of_le hgs21 hb.size
   have HR22:=Lib.hid ((hb.block ga (Array.getElem?_eq_some_iff.1 HR21.out).1).trans HR21.out)
   clear ho hb
   go_wp2_with fail
   refine hK.out _ _ (HS.out _ HB22.out) (fun hH22=> ?_)
   clear hK K hH21
   try simp only[ap]
   refine rd1 9 rfl fun K hK=> ?_
   go_simp
   refine(HUa.out _).mono ?_
   rintro e u23 ⟨x2,rfl,ho,hb⟩
   have HG2:=Lib.hid ho.row_ge
   obtain⟨A2,q2,rfl⟩:=ho.read.form
   have P2_23:=Lib.hid ho.read
   have P0_23:=Lib.hid (P0_22.out.later hb)
   have P1_23:=Lib.hid (P1_22.out.later hb)
   have PL_23:=Lib.hid (PL_22.out.later hb)
   have HB23:Hid (Below wq.heap.size wq u23):=Lib.hid (HB22.out.trans (hb.mono HB22.out.size))
   have HD2:Fp _ ga:=fun k hk=>by have:=HG2.out k hk;omega
   have hgs23:ga<u23.heap.size:=Nat.lt_of_lt_of_le hgs22 hb.size
   have HR23:=Lib.hid ((hb.block ga (Array.getElem?_eq_some_iff.1 HR22.out).1).trans HR22.out)
   clear ho hb
   go_wp2_with fail
   refine hK.out _ _ (HS.out _ HB23.out) (fun hH23=> ?_)
   clear hK K hH22
   try simp only[ap]
   refine rd1 12 rfl fun K hK=> ?_
   go_simp
   refine(HTn.out _).mono ?_
   rintro e u24 ⟨x3,rfl,ho,hb⟩
   have HG3:=Lib.hid ho.row_ge
   obtain⟨A3,q3,rfl⟩:=ho.read.form
   have P3_24:=Lib.hid ho.read
   have P0_24:=Lib.hid (P0_23.out.later hb)
   have P1_24:=Lib.hid (P1_23.out.later hb)
   have P2_24:=Lib.hid (P2_23.out.later hb)
   have PL_24:=Lib.hid (PL_23.out.later hb)
   have HB24:Hid (Below wq.heap.size wq u24):=Lib.hid (HB23.out.trans (hb.mono HB23.out.size))
   have HD3:Fp _ ga:=fun k hk=>by have:=HG3.out k hk;omega
   have hgs24:ga<u24.heap.size:=Nat.lt_of_lt_of_le hgs23 hb.size
   have HR24:=Lib.hid ((hb.block ga (Array.getElem?_eq_some_iff.1 HR23.out).1).trans HR23.out)
   clear ho hb
   go_wp2_with fail
   refine hK.out _ _ (HS.out _ HB24.out) (fun hH24=> ?_)
   clear hK K hH23
   try simp only[ap]
   refine rd1 15 rfl fun K hK=> ?_
   go_simp
   refine(HTt.out _).mono ?_
   rintro e u25 ⟨x4,rfl,ho,hb⟩
   have HG4:=Lib.hid ho.row_ge
   obtain⟨A4,q4,rfl⟩:=ho.read.form
   have P4_25:=Lib.hid ho.read
   have P0_25:=Lib.hid (P0_24.out.later hb)
   have P1_25:=Lib.hid (P1_24.out.later hb)
   have P2_25:=Lib.hid (P2_24.out.later hb)
   have P3_25:=Lib.hid (P3_24.out.later hb)
   have PL_25:=Lib.hid (PL_24.out.later hb)
   have HB25:Hid (Below wq.heap.size wq u25):=Lib.hid (HB24.out.trans (hb.mono HB24.out.size))
   have HD4:Fp _ ga:=fun k hk=>by have:=HG4.out k hk;omega
   have hgs25:ga<u25.heap.size:=Nat.lt_of_lt_of_le hgs24 hb.size
   have HR25:=Lib.hid ((hb.block ga (Array.getElem?_eq_some_iff.1 HR24.out).1).trans HR24.out)
   clear ho hb
   go_wp2_with fail
   refine hK.out _ _ (HS.out _ HB25.out) (fun hH25=> ?_)
   clear hK K hH24
   try simp only[ap]
   refine tk 17 rfl ?_
   refine rd1 19 rfl fun K hK=> ?_
   obtain⟨y0,y1,y2,y3,y4,y5,z0,z1,z2,z3,z4,z5⟩:=Ff HR25.out
   go_simp
   with_reducible refine hK.out _ _ (HS.out _ (GW HB25.out hgl _ _ _ _ _ _)) (fun hH=> ?_)
   clear hK K hH25
   try simp only[ap]
   refine wpAnyH_done (by kernel_rfl) ?_ _
   refine NoPanic.normal ?_
   go_wp2_with fail
   go_meet
   case rel=>exact⟨_,rfl,⟨_,_,_,_,_,_,GQ HR25.out _ _ _ _ _ _,P0_25.out.six HD0 _ _ _ _ _ _,P1_25.out.six HD1 _ _ _ _ _ _,P2_25.out.six HD2 _ _ _ _ _ _,P3_25.out.six HD3 _ _ _ _ _ _,P4_25.out.six HD4 _ _ _ _ _ _,PL_25.out.six HDL _ _ _ _ _ _⟩,GW HB25.out hgl _ _ _ _ _ _⟩
 case rest=>
  obtain⟨g,rfl,h6,hbx⟩:=hcut
  have H6:=Lib.hid h6
  have HBC:Hid (Below W0.heap.size W0 wc):=Lib.hid (HBQ.out.trans (hbx.mono HBQ.out.size))
  have HRC:Hid (RowAt wc w2.heap.size #[.string nm,.bool b0,.bool b1,.bool b2,.bool b3,.bool b4,.bool b5]):=Lib.hid ((hbx.block _ hzq).trans HRQ.out)
  have HBCq:Hid (wq.heap.size<=wc.heap.size):=Lib.hid hbx.size
  clear h6 hbx
  obtain⟨W1,hW1⟩:∃W,W=wc.alloc (.cells #[.int .u8 1] 5):=⟨_,rfl⟩
  have HB1:Hid (Below W0.heap.size W0 W1):=Lib.hid (by rw[hW1];exact HBC.out.alloc HBC.out.size _)
  have HBc1:Hid (Below wc.heap.size wc W1):=Lib.hid (by rw[hW1];exact(Below.refl _ _).alloc (Nat.le_refl _) _)
  have H11 : Hid (BIn W1 (.slice (some ⟨wc.heap.size, 0, none⟩) 1 1) [1]) := Lib.hid (.inr ⟨_, 1, rfl, by simp, by decide, by rw [hW1]; simp, fun j u hu => by
   rcases j with _|j
   ·have hv : Value.int .u8 1 = u := by simpa [bv] using hu
    rw[<-hv,hW1]
    show World.cell? _ ⟨wc.heap.size,0,none⟩=_
    unfold World.cell?;rw[heap_alloc_new];rfl
   ·simp at hu⟩)
  replace hW1:=Lib.hid hW1
  obtain⟨a0,-⟩:=EBox.cells (HX.out W1 HB1.out)
  go_upto_region 6 with fail
  go_wp2_with (rw[<-hW1.out])
  refine(HUk.out _).mono ?_
  rintro e w5 ⟨xk,rfl,ho,hb⟩
  obtain⟨Ak,qk,rfl⟩:=ho.read.form
  have HB5:Hid (Below W0.heap.size W0 w5):=Lib.hid (HB1.out.trans (hb.mono HB1.out.size))
  have HBc5:Hid (Below wc.heap.size wc w5):=Lib.hid (HBc1.out.trans (hb.mono HBc1.out.size))
  have p0:=H11.out.later hb
  have p1:=ho.read
  obtain⟨W6,hW6⟩:∃W,W=w5.alloc (.cells #[.slice (some ⟨wc.heap.size,0,none⟩) 1 1,.slice Ak lk.length qk] 100):=⟨_,rfl⟩
  have hb6:Below w5.heap.size w5 W6:=by rw[hW6];exact(Below.refl _ _).alloc (Nat.le_refl _) _
  have HB6:Hid (Below W0.heap.size W0 W6):=Lib.hid (HB5.out.trans (hb6.mono HB5.out.size))
  have HBc6:Hid (Below wc.heap.size wc W6):=Lib.hid (HBc5.out.trans (hb6.mono HBc5.out.size))
  have HC:Hid (Calls Tryz.prog 71 #[.slice (some ⟨w5.heap.size,0,none⟩) 2 2] W6 fun e w'=>∃v,e= .returned v/\BOwn w' W6.heap.size v (1::lk)/\Below W6.heap.size W6 w'):=Lib.hid (by
   have hp : PIn W6 (some ⟨w5.heap.size, 0, none⟩) 2 [[1], lk] := ⟨by simp, by decide, fun _ => ⟨w5.heap.size, 0, rfl, by rw [hW6]; simp, fun i hi => by
    have h0:W6.heap[w5.heap.size]?=some (.cells #[.slice (some ⟨wc.heap.size,0,none⟩) 1 1,.slice Ak lk.length qk] 100 (0,0)):=by rw[hW6];exact heap_alloc_new w5 _
    rcases i with _|i
    ·exact⟨_,by unfold World.cell?;rw[h0];rfl,p0.later hb6⟩
    ·have h1 : i = 0 := by simp at hi; omega
     subst h1
     exact⟨_,by unfold World.cell?;rw[h0];rfl,p1.later hb6⟩⟩⟩
   have:=OL [[1],lk] (some ⟨w5.heap.size,0,none⟩) 2 W6 hp (by simp;omega) (by simp)
   simpa using this)
  replace hW6:=Lib.hid hW6
  clear p0 p1 ho hb hb6 a0
  go_wp2_with (rw[<-hW6.out])
  refine HC.out.mono ?_
  rintro e w7 ⟨o,rfl,ho,hb⟩
  have HO7:=Lib.hid ho
  have HB7:=Lib.hid hb
  obtain⟨-,r1,r2,r3,r4,r5,r6⟩:=RowAt.cells ((HBc6.out.trans (hb.mono HBc6.out.size)).block _ (Nat.lt_of_lt_of_le hzq HBCq.out) |>.trans HRC.out)
  clear ho hb HC
  go_wp2_with fail
  clear r1 r2 r3 r4 r5 r6
  have HLN:=fun j=>KX [b0,b1,b2,b3,b4,b5] [l0,l1,l2,l3,l4,lv] j
  simp only[List.flatten_cons,List.flatten_nil,List.length_append,List.length_nil] at HLN
  replace HLN:=Lib.hid HLN
  generalize hps : [l0,l1,l2,l3,l4,lv]=ps at *
  generalize hbs : [b0,b1,b2,b3,b4,b5]=bs at *
  replace hps:=Lib.hid hps
  replace hbs:=Lib.hid hbs
  go_loopw [9,54] (fun o i wr=>∃(j:Nat),j<=6/\i= .int .i64 j/\BOwn wr W6.heap.size o (1::(lk++sel bs ps j))/\Below W6.heap.size W6 wr) (fun _ i _=>6-(intOf i).toNat)
  case atStart=>exact⟨0,by omega,rfl,by simpa[sel] using HO7.out,HB7.out⟩
  case round=>
   obtain⟨j,hj,rfl,hown,hb⟩:=hrel
   have HO:=Lib.hid hown
   have HB:=Lib.hid hb
   have HBc:=Lib.hid (HBc6.out.trans (hb.mono HBc6.out.size))
   obtain⟨v0,v1,v2,v3,v4,v5,h6,p0,p1,p2,p3,p4,p5⟩:=H6.out.later HBc.out
   obtain⟨c0,c1,c2,c3,c4,c5,-⟩:=Ff h6
   clear h6 hown hb
   have hln:=HLN.out j
   have hbz:=HB.out.size
   rcases (by omega:j=0\/j=1\/j=2\/j=3\/j=4\/j=5\/j=6) with rfl|rfl|rfl|rfl|rfl|rfl|rfl
   ·have hix := ix0 (.bool b0) (.bool b1) (.bool b2) (.bool b3) (.bool b4) (.bool b5)
    have HSL:Hid (sel bs ps 1=sel bs ps 0++(if b0 then l0 else [])):=Lib.hid (by rw[<-hps.out, <-hbs.out];simp[sel])
    have hin:BIn wr v0 l0:=by have:=p0;rw[<-hps.out] at this;exact this
    clear p0 p1 p2 p3 p4 p5
    cases b0
    ·go_wp2_with fail
     exact⟨⟨1,by omega,by go_num,by rw[HSL.out];simpa using HO.out,HB.out⟩,by simp[intOf]⟩
    ·go_wp2_with (at_builtin; refine Dl _ rfl _ _ rfl W6.heap.size _ v0 (1 :: (lk ++ sel bs ps 0)) l0 rfl rfl HO.out hin (by simp only [List.length_cons, List.length_append]; omega) hbz ?_; intro u2 w2' hown2 hg2 hb2)
     have HO2:=Lib.hid hown2
     have HB2:=Lib.hid (HB.out.trans hb2)
     clear hown2 hb2
     go_wp2_with fail
     exact⟨⟨1,by omega,by go_num,by rw[HSL.out];simpa using HO2.out,HB2.out⟩,by simp[intOf]⟩
   ·have hix := ix1 (.bool b0) (.bool b1) (.bool b2) (.bool b3) (.bool b4) (.bool b5)
    have HSL:Hid (sel bs ps 2=sel bs ps 1++(if b1 then l1 else [])):=Lib.hid (by rw[<-hps.out, <-hbs.out];simp[sel])
    have hin:BIn wr v1 l1:=by have:=p1;rw[<-hps.out] at this;exact this
    clear p0 p1 p2 p3 p4 p5
    cases b1
    ·go_wp2_with fail
     exact⟨⟨2,by omega,by go_num,by rw[HSL.out];simpa using HO.out,HB.out⟩,by simp[intOf]⟩
    ·go_wp2_with (at_builtin; refine Dl _ rfl _ _ rfl W6.heap.size _ v1 (1 :: (lk ++ sel bs ps 1)) l1 rfl rfl HO.out hin (by simp only [List.length_cons, List.length_append]; omega) hbz ?_; intro u2 w2' hown2 hg2 hb2)
     have HO2:=Lib.hid hown2
     have HB2:=Lib.hid (HB.out.trans hb2)
     clear hown2 hb2
     go_wp2_with fail
     exact⟨⟨2,by omega,by go_num,by rw[HSL.out];simpa using HO2.out,HB2.out⟩,by simp[intOf]⟩
   ·have hix := ix2 (.bool b0) (.bool b1) (.bool b2) (.bool b3) (.bool b4) (.bool b5)
    have HSL:Hid (sel bs ps 3=sel bs ps 2++(if b2 then l2 else [])):=Lib.hid (by rw[<-hps.out, <-hbs.out];simp[sel])
    have hin:BIn wr v2 l2:=by have:=p2;rw[<-hps.out] at this;exact this
    clear p0 p1 p2 p3 p4 p5
    cases b2
    ·go_wp2_with fail
     exact⟨⟨3,by omega,by go_num,by rw[HSL.out];simpa using HO.out,HB.out⟩,by simp[intOf]⟩
    ·go_wp2_with (at_builtin; refine Dl _ rfl _ _ rfl W6.heap.size _ v2 (1 :: (lk ++ sel bs ps 2)) l2 rfl rfl HO.out hin (by simp only [List.length_cons, List.length_append]; omega) hbz ?_; intro u2 w2' hown2 hg2 hb2)
     have HO2:=Lib.hid hown2
     have HB2:=Lib.hid (HB.out.trans hb2)
     clear hown2 hb2
     go_wp2_with fail
     exact⟨⟨3,by omega,by go_num,by rw[HSL.out];simpa using HO2.out,HB2.out⟩,by simp[intOf]⟩
   ·have hix := ix3 (.bool b0) (.bool b1) (.bool b2) (.bool b3) (.bool b4) (.bool b5)
    have HSL:Hid (sel bs ps 4=sel bs ps 3++(if b3 then l3 else [])):=Lib.hid (by rw[<-hps.out, <-hbs.out];simp[sel])
    have hin:BIn wr v3 l3:=by have:=p3;rw[<-hps.out] at this;exact this
    clear p0 p1 p2 p3 p4 p5
    cases b3
    ·go_wp2_with fail
     exact⟨⟨4,by omega,by go_num,by rw[HSL.out];simpa using HO.out,HB.out⟩,by simp[intOf]⟩
    ·go_wp2_with (at_builtin; refine Dl _ rfl _ _ rfl W6.heap.size _ v3 (1 :: (lk ++ sel bs ps 3)) l3 rfl rfl HO.out hin (by simp only [List.length_cons, List.length_append]; omega) hbz ?_; intro u2 w2' hown2 hg2 hb2)
     have HO2:=Lib.hid hown2
     have HB2:=Lib.hid (HB.out.trans hb2)
     clear hown2 hb2
     go_wp2_with fail
     exact⟨⟨4,by omega,by go_num,by rw[HSL.out];simpa using HO2.out,HB2.out⟩,by simp[intOf]⟩
   ·have hix := ix4 (.bool b0) (.bool b1) (.bool b2) (.bool b3) (.bool b4) (.bool b5)
    have HSL:Hid (sel bs ps 5=sel bs ps 4++(if b4 then l4 else [])):=Lib.hid (by rw[<-hps.out, <-hbs.out];simp[sel])
    have hin:BIn wr v4 l4:=by have:=p4;rw[<-hps.out] at this;exact this
    clear p0 p1 p2 p3 p4 p5
    cases b4
    ·go_wp2_with fail
     exact⟨⟨5,by omega,by go_num,by rw[HSL.out];simpa using HO.out,HB.out⟩,by simp[intOf]⟩
    ·go_wp2_with (at_builtin; refine Dl _ rfl _ _ rfl W6.heap.size _ v4 (1 :: (lk ++ sel bs ps 4)) l4 rfl rfl HO.out hin (by simp only [List.length_cons, List.length_append]; omega) hbz ?_; intro u2 w2' hown2 hg2 hb2)
     have HO2:=Lib.hid hown2
     have HB2:=Lib.hid (HB.out.trans hb2)
     clear hown2 hb2
     go_wp2_with fail
     exact⟨⟨5,by omega,by go_num,by rw[HSL.out];simpa using HO2.out,HB2.out⟩,by simp[intOf]⟩
   ·have hix := ix5 (.bool b0) (.bool b1) (.bool b2) (.bool b3) (.bool b4) (.bool b5)
    have HSL:Hid (sel bs ps 6=sel bs ps 5++(if b5 then lv else [])):=Lib.hid (by rw[<-hps.out, <-hbs.out];simp[sel])
    have hin:BIn wr v5 lv:=by have:=p5;rw[<-hps.out] at this;exact this
    clear p0 p1 p2 p3 p4 p5
    cases b5
    ·go_wp2_with fail
     exact⟨⟨6,by omega,by go_num,by rw[HSL.out];simpa using HO.out,HB.out⟩,by simp[intOf]⟩
    ·go_wp2_with (at_builtin; refine Dl _ rfl _ _ rfl W6.heap.size _ v5 (1 :: (lk ++ sel bs ps 5)) lv rfl rfl HO.out hin (by simp only [List.length_cons, List.length_append]; omega) hbz ?_; intro u2 w2' hown2 hg2 hb2)
     have HO2:=Lib.hid hown2
     have HB2:=Lib.hid (HB.out.trans hb2)
     clear hown2 hb2
     go_wp2_with fail
     exact⟨⟨6,by omega,by go_num,by rw[HSL.out];simpa using HO2.out,HB2.out⟩,by simp[intOf]⟩
   ·go_wp2_with fail
    exact bodyPost_ret (v:= .tuple #[u9,.bool true]) (by simp[results,Tryz.results70,go_sem]) rfl ⟨_,rfl,by have hx:=HO.out.base (base':=w.heap.size) (by have:=HB0.out.size;have:=HB6.out.size;omega);rw[<-hps.out, <-hbs.out] at hx;exact hx,HB0.out.trans ((HB6.out.trans (HB.out.mono HB6.out.size)).mono HB0.out.size)⟩
end Bt
namespace Cn
open _root_.Go.Proofs.YtaahfiopdoinkaaGreat.Nm (Di Dk De)
open Vt (VT Rep BoxAt Da DX DY KidsAt Fy)
open Ev (EV Dj Db Dn EBox SJ zeroT take_drop tk ap rd1 rd2 Dh)
open Cm (rowOf EvsIn EvsAt EvNew FU Gr)
open Bt (BOwn BIn PIn Dm sb bv OL Gz Fl)
def GU (es:List EV)(bs:List (List Nat)):Prop:=bs.length=es.length/\∀i (h:i<es.length) (h':i<bs.length) (lo hi:Nat) (vk vn:Int) (vf:Nat) (vs:ByteArray) (A:Option Addr) (m c:Nat) (w:World),Dj es[i]->Rep w lo hi es[i].v (Dn vk vn vf vs A m c)->hi<=w.heap.size->
 Calls Tryz.prog 70 #[.agg (Db es[i] vk vn vf vs A m c)] w fun r w'=>∃v,r= .returned (.tuple #[v,.bool true])/\BOwn w' w.heap.size v bs[i]/\Below w.heap.size w w'
theorem Q478.Y475 (h:p:=by
 have HV:=Lib.hid (hB W0 hb0)
 obtain⟨g0,g1,g2,g3,g4,g5,g6,g7,g8,g9,g10⟩:=EBox.cells hx0
 have HB0:=Lib.hid hb0
 clear hB hx0 hb0
 unfold Db at HV hW0 ⊢
 replace hW0:=Lib.hid hW0
 go_enter Tryz.func69,Tryz.ntmps69
 go_upto_region 1 with fail
 rw[<-hW0.out]
 go_wp2_with fail
 refine HV.out.mono ?_
 rintro x w1 ⟨v,rfl,ho,hb1⟩
 have HO:=Lib.hid (ho.base HB0.out.size)
 have HB1:=Lib.hid (HB0.out.trans (hb1.mono HB0.out.size))
 clear hb1 ho g0 g1 g2 g3 g4 g5 g6 g7 g8 g9 g10
 go_wp2_with fail
 go_ret
 exact⟨v,rfl,HO.out,HB1.out⟩):p:=h
theorem bfn_any (e:EV)(l:List Nat)(vk vn:Int)(vf:Nat)(vs:ByteArray)(A:Option Addr)(m c:Nat)(w:World)(hB:∀W,Below w.heap.size w W->Calls Tryz.prog 70 #[.agg (Db e vk vn vf vs A m c)] W fun r w'=>∃v,r= .returned (.tuple #[v,.bool true])/\BOwn w' W.heap.size v l/\Below W.heap.size W w') :
  Calls Tryz.prog 69 #[.agg (Db e vk vn vf vs A m c)] w fun r w'=>∃v,r= .returned v/\BOwn w' w.heap.size v l/\Below w.heap.size w w':=by
 open Q478 in exact M475
def PRow (w:World)(base:Nat)(A:Option Addr)(cap n:Nat)(ls:List (List Nat)):Prop:=ls.length=n/\∃xs,w.ownsRow base 100 1 (.slice A n cap) n xs/\∀i (h:i<ls.length),∃v,xs[i]?=some v/\BIn w v ls[i]/\∀k,v.ownBlock=some k->rowOf A≠some k
theorem prow_nil (w:World)(base:Nat):PRow w base none 0 0 []:=⟨rfl,[],⟨rfl,.inl ⟨rfl,rfl⟩⟩,fun i h=>absurd h (by simp)⟩
theorem VZ {w:World}{v:Value}{l:List Nat}(h:BIn w v l):∀k,v.ownBlock=some k->k<w.heap.size:=by
 intro k hk
 rcases h with ⟨rfl,-⟩|⟨ad,cap,rfl,h1,h2,h3,h4⟩
 ·cases hk
 ·cases hk;exact h3
theorem bin_keep {w w':World}{v:Value}{l:List Nat}(h:BIn w v l)(hz:w.heap.size<=w'.heap.size)(hk:∀k,v.ownBlock=some k->w'.heap[k]?=w.heap[k]?):BIn w' v l:=by
 rcases h with h|⟨ad,cap,rfl,h1,h2,h3,h4⟩
 ·exact .inl h
 ·exact .inr ⟨ad,cap,rfl,h1,h2,Nat.lt_of_lt_of_le h3 hz,fun j u hu=>(World.cell?_of_block (a:=ad.add j) (by rw[Bt.block_add];exact hk _ rfl)).trans (h4 j u hu)⟩
theorem PRow.pin {w:World}{base:Nat}{A:Option Addr}{cap n:Nat}{ls:List (List Nat)}(h:PRow w base A cap n ls):PIn w A cap ls:=by
 obtain⟨rfl,xs,h1,h3⟩:=h
 rcases h1.2 with ⟨hv,h0⟩|⟨r,cp,cur,q1,q2,q3,q4,q5,q6,q7⟩
 ·injection hv with hA hn hc
  exact⟨by omega,by rw[hc];exact Nat.zero_le _,fun hp=>absurd hp (by omega)⟩
 ·injection q1 with hA hn hc
  subst hc
  refine⟨q4,q5,fun hp=>⟨r,0,hA,(Array.getElem?_eq_some_iff.1 q3).1,fun i hi=> ?_⟩⟩
  obtain⟨v,k1,k2,-⟩:=h3 i hi
  refine⟨v,?_,k2⟩
  rw[<-k1, <-q7,List.getElem?_take_of_lt (by omega),Array.getElem?_toList]
  simp[World.cell?,q3]
theorem PRow.push {W w' : World} {base r H : Nat} {A : Option Addr} {cap cap' n : Nat} {ls : List (List Nat)} {l : List Nat} {xs : List Value} {v : Value}
  (hlen:ls.length=n) (hlx:xs.length=n) (hx:∀i (h:i<ls.length),∃v,xs[i]?=some v/\BIn W v ls[i]/\∀k,v.ownBlock=some k->rowOf A≠some k) (hv:BIn W v l) (hrr:∀k,v.ownBlock=some k->rowOf A≠some k)
  (hown:w'.ownsRow base 100 1 (.slice (some ⟨r,0,none⟩) (n+1) cap') (n+1) (xs++ [v])) (hgrow:W.grownBy w' (rowOf A)) (hat:rowOf A=some r\/r=H) (hH:W.heap.size<=H) :
  PRow w' base (some ⟨r,0,none⟩) cap' (n+1) (ls++ [l]):=by
 have key:∀(v:Value) (l:List Nat),BIn W v l->(∀k,v.ownBlock=some k->rowOf A≠some k)->BIn w' v l/\∀k,v.ownBlock=some k->rowOf (some ⟨r,0,none⟩)≠some k:=fun v l h1 h2=>by
  refine⟨bin_keep h1 hgrow.size (fun k hk=>hgrow.block k (VZ h1 k hk) (fun e=>h2 k hk e.symm)),fun k hk e=> ?_⟩
  obtain rfl:r=k:=Option.some.inj e
  rcases hat with h|h
  ·exact h2 r hk h
  ·have:=VZ h1 r hk;omega
 refine⟨by simp[hlen],_,hown,fun i hil=> ?_⟩
 simp at hil
 by_cases hlt:i<ls.length
 ·rw [List.getElem_append_left hlt]
  obtain⟨u,k1,k2,k3⟩:=hx i hlt
  obtain⟨z1,z2⟩:=key u _ k2 k3
  exact⟨u,(List.getElem?_append_left (by omega)).trans k1,z1,z2⟩
 ·obtain rfl : i = ls.length := by omega
  rw[List.getElem_append_right (Nat.le_refl _)]
  simp only[Nat.sub_self,List.getElem_cons_zero]
  obtain⟨z1,z2⟩:=key v _ hv hrr
  exact⟨v,by rw[List.getElem?_append_right (by omega),hlx,hlen,Nat.sub_self];rfl,z1,z2⟩
theorem Tryz.infoY : (Tryz.prog.info? 100).map (fun i=>(i.zero,i.size,i.bytes))=some (some (.slice none 0 0),1,24):=by kernel_rfl
theorem LY {w:World}{v:Value}{l:List Nat}(h:BIn w v l):v.oneCell'=true:=by
 rcases h with ⟨rfl,-⟩|⟨ad,cap,rfl,-⟩<;>rfl
theorem YN (es:List EV)(hl40:es.length<=1099511627775)(bs:List (List Nat))(hEB:GU es bs)(A:Option Addr)(cap:Nat)(w:World)(h:EvsIn w A cap es) :
  Calls Tryz.prog 68 #[.slice A es.length cap,.func (.func 69) #[] #[]] w fun r w'=>∃A2 cap2,r= .returned (.slice A2 es.length cap2)/\Below w.heap.size w w'/\PRow w' w.heap.size A2 cap2 es.length bs:=by
 have hl:=h.le
 have hc:=h.cap_le
 simp only[maxLen] at hc
 obtain⟨i0,hi0,hz0,hz1,hz2⟩:=info_parts Tryz.infoY
 have HK:=Lib.hid h;clear h
 have hbl:=hEB.1
 have HE:=Lib.hid hEB.2
 clear hEB
 go_enter Tryz.func68,Tryz.ntmps68
 go_wp2_with fail
 go_loopw [5,10] (fun out i wr=>∃(j:Nat) (A2:Option Addr) (cap2:Nat),j<=es.length/\i= .int .i64 j/\out= .slice A2 j cap2/\PRow wr w.heap.size A2 cap2 j (bs.take j)/\Below w.heap.size w wr) (fun _ i _=>es.length-(intOf i).toNat)
 case atStart=>exact⟨0,none,0,by omega,rfl,rfl,by simpa using prow_nil w w.heap.size,Below.refl _ _⟩
 case round=>
  obtain⟨j,A2,cap2,hj,rfl,rfl,hrow,hb⟩:=hrel
  by_cases hlt:j<es.length
  ·obtain ⟨b, off, lo, hi, vk, vn, vf, vs, A', m, c, rfl, hbl', hf, hv0, hhi0, e0, e1, e2, e3, e4, e5, e6, e7, e8, e9, e10⟩ := HK.out.get j hlt
   have HB:=Lib.hid hb
   have hbs:=hb.size
   have hcw:∀o,wr.cell? ⟨b,o,none⟩=w.cell? ⟨b,o,none⟩:=fun o=>HB.out.cell (p:=⟨b,o,none⟩) hbl'
   have d0:=(hcw _).trans e0;have d1:=(hcw _).trans e1;have d2:=(hcw _).trans e2;have d3:=(hcw _).trans e3;have d4:=(hcw _).trans e4;have d5:=(hcw _).trans e5;have d6:=(hcw _).trans e6;have d7:=(hcw _).trans e7;have d8:=(hcw _).trans e8;have d9:=(hcw _).trans e9;have d10:=(hcw _).trans e10
   have hv:=hv0.later (HB.out.mono hhi0)
   have hhi:hi<=wr.heap.size:=Nat.le_trans hhi0 hbs
   clear e0 e1 e2 e3 e4 e5 e6 e7 e8 e9 e10 hcw hv0 hb
   obtain⟨W1,hW1⟩:∃W1,W1=wr.alloc (.cells (Db es[j] vk vn vf vs A' m c) 61):=⟨_,rfl⟩
   have hb1:Below wr.heap.size wr W1:=by rw[hW1];exact(Below.refl _ _).alloc (Nat.le_refl _) _
   have hx1:EBox W1 wr.heap.size (Db es[j] vk vn vf vs A' m c):=by rw[hW1];exact Gs ..
   obtain⟨g0,g1,g2,g3,g4,g5,g6,g7,g8,g9,g10⟩:=EBox.cells hx1
   have hjb:j<bs.length:=by omega
   have HC:=Lib.hid (bfn_any es[j] bs[j] vk vn vf vs A' m c W1 (fun W hW=>HE.out j hlt hjb lo hi vk vn vf vs A' m c W hf ((hv.later (hb1.mono hhi)).later (hW.mono (Nat.le_trans hhi hb1.size))) (Nat.le_trans hhi (Nat.le_trans hb1.size hW.size))))
   have HF:=Lib.hid hf;have HB1:=Lib.hid hb1
   obtain⟨hlen,xs,hxo,hxe⟩:=hrow
   have hlx:xs.length=j:=by have:=hxo.1;omega
   have HOWN:Hid (∀W,Below wr.heap.size wr W->W.ownsRow w.heap.size 100 1 (.slice A2 j cap2) j xs):=Lib.hid fun W hW=>GF hxo hW
   have HRO:=Lib.hid (own_lt hxo)
   have HXE:=Lib.hid hxe
   unfold Db at HC hW1
   replace hW1:=Lib.hid hW1
   clear hxe hxo hf hv hx1 hb1
   go_upto_region 5 with fail
   rw[<-hW1.out]
   clear d0 d1 d2 d3 d4 d5 d6 d7 d8 d9 d10
   go_wp2_with fail
   refine HC.out.mono ?_
   rintro x w2 ⟨v,rfl,ho,hb2⟩
   obtain⟨Av,cv,rfl⟩:=ho.read.form
   generalize hnb:bs[j].length=nb at *
   obtain⟨v,hv⟩:∃v,v=Value.slice Av nb cv:=⟨_,rfl⟩
   rw[<-hv] at ho
   have HVV:=Lib.hid hv
   clear hnb
   have HB2:Hid (Below wr.heap.size wr w2):=Lib.hid (HB1.out.trans (hb2.mono HB1.out.size))
   have h1c:=LY ho.read
   obtain⟨W4,hW4⟩:∃W4,W4=w2.alloc (.cells #[v] 100):=⟨_,rfl⟩
   have hW4':=hW4
   rw[hv] at hW4'
   have K1:Hid (Below wr.heap.size wr W4):=Lib.hid (by rw[hW4];exact HB2.out.alloc HB2.out.size _)
   have K2:Hid (∀q u,[v][q]?=some u->W4.cell? ((⟨w2.heap.size,0,none⟩:Addr).add q)=some u):=Lib.hid (World.news_of_block (cs:= #[v]) (t:=100) (fr:=(0,0)) (by rw[hW4];exact heap_alloc_new w2 _))
   have K3:Hid (BIn W4 v bs[j]):=Lib.hid (by rw[hW4];exact ho.read.later ((Below.refl _ _).alloc (Nat.le_refl _) _))
   have K4:Hid (∀k,v.ownBlock=some k->rowOf A2≠some k):=Lib.hid fun k hk e=>by
    have h1:=ho.row_ge k hk
    have h2:=(HRO.out k e).1
    have h3:=HB1.out.size
    omega
   have KO:=Lib.hid (HOWN.out _ K1.out)
   have hbs4:=Nat.le_trans hbs K1.out.size
   have hw1s:=HB1.out.size
   replace hW4:=Lib.hid hW4'
   rw[hv] at K2 h1c
   clear hW4' hv
   clear ho hb2 g0 g1 g2 g3 g4 g5 g6 g7 g8 g9 g10
   go_wp2_with (at_builtin;rw[<-hW4.out];refine wpList_append_lies _ rfl _ _ 97 rfl w.heap.size 100 i0 _ 1 24 Tryz.underlying97 hi0 hz0 hz1 hz2 rfl (by decide) (.slice A2 j cap2) j xs rfl KO.out ⟨w2.heap.size,0,none⟩ 1 1 [.slice Av nb cv] rfl rfl K2.out (by intro u hu;rw[List.mem_singleton.1 hu];exact h1c) (by decide) (by simp only[maxLen];omega) (by omega) hbs4 _ rfl ?_;intro r2 cap4 w5 hown5 hgrow5 hat5 hrl5)
   rw[Cm.Fa] at hgrow5 hat5
   rw[<-HVV.out] at hown5
   have HP:Hid (PRow w5 w.heap.size (some ⟨r2,0,none⟩) cap4 (j+1) (bs.take (j+1))):=Lib.hid (by
    rw[List.take_succ_eq_append_getElem hjb]
    exact PRow.push (cap:=0) (H:=W4.heap.size) hlen hlx (fun i h=>by
     obtain⟨u,k1,k2,k3⟩:=HXE.out i h
     exact⟨u,k1,k2.later K1.out,k3⟩) K3.out K4.out hown5 hgrow5 hat5 (Nat.le_refl _))
   have HB5:Hid (Below w.heap.size w w5):=Lib.hid ((HB.out.trans (K1.out.mono hbs)).trans ⟨hgrow5.os,hgrow5.tape,hgrow5.output,hgrow5.size,fun b hb=>hgrow5.block b (by omega) (fun e=>by have:=(HRO.out b e.symm).2;omega)⟩)
   clear hown5 hgrow5 hat5
   exact⟨⟨j+1,_,cap4,by omega,by go_num,rfl,HP.out,HB5.out⟩,by simp[intOf];omega⟩
  ·have hj' : j = es.length := by omega
   subst hj'
   rw[List.take_of_length_le (by omega)] at hrow
   have HE:=Lib.hid hrow;have HB:=Lib.hid hb
   clear hrow hb
   go_wp2_with fail
   go_ret
   exact⟨A2,cap2,rfl,HB.out,HE.out⟩
def Ln (f:ByteArray)(at' n:Nat)(bs:List (List Nat)):List Nat:=(Dm 10 f.size++sb f)++(Dm 10 at'++(Dm 10 n++bs.flatten))
theorem slice_form {w:World}{base:Nat}{v:Value}{l:List Nat}(h:BOwn w base v l):∃A n cap,v= .slice A n cap:=by
 obtain⟨A,cap,e⟩:=h.read.form
 exact⟨A,_,cap,e⟩
theorem Q555.Y553 (h:p:=by
 have hz0:W0.heap.size=w.heap.size+1:=by rw[hW0];simp
 have HV:=Lib.hid (ON es f (by simp only[maxLen];omega) at' hat A cap W0 (h.later hb0))
 rw[hval] at HV
 have HM:=Lib.hid fun W (hW:Below W0.heap.size W0 W)=>YN es hl40 bs hEB A cap W ((h.later hb0).later hW)
 have hbl:=hEB.1
 obtain⟨c0,c1,c2,-⟩:=hx0.cells
 have HX0:=Lib.hid hx0;have HB0:=Lib.hid hb0
 have HT:=Lib.hid fun W=>Gz f (by omega) W
 have HU:=Lib.hid fun W x hx=>Fl x hx W
 have hn64:es.length<18446744073709551616:=by omega
 have HWR:Hid (IntKind.u64.wrap (es.length:Int)=(es.length:Int)):=Lib.hid (IntWalk.u64_in _ (by omega))
 have hsum:([Dm 10 f.size++sb f,Dm 10 at',Dm 10 es.length,bs.flatten]:List (List Nat)).flatten.length<=35184372088832:=by
  have h1:=Bt.Dv 10 f.size
  have h2:=Bt.Dv 10 at'
  have h3:=Bt.Dv 10 es.length
  have h4:=Bt.Ox f
  simp only[List.flatten_cons,List.flatten_nil,List.length_append,List.length_nil]
  omega
 have hlen4:([Dm 10 f.size++sb f,Dm 10 at',Dm 10 es.length,bs.flatten]:List (List Nat)).length<=35184372088832:=by simp
 have HFL:Hid (([Dm 10 f.size++sb f,Dm 10 at',Dm 10 es.length,bs.flatten]:List (List Nat)).flatten=Ln f at' es.length bs):=Lib.hid (by simp[Ln])
 replace hW0:=Lib.hid hW0
 have HSUM:=Lib.hid hsum;have HLEN4:=Lib.hid hlen4;have HFLAT:=Lib.hid hflat
 clear h hx0 hb0 hEB hval hsum hlen4 hflat
 go_enter Tryz.func41,Tryz.ntmps41
 go_upto_region 1 with fail
 rw[<-hW0.out]
 go_wp2_with fail
 refine HV.out.mono ?_
 rintro x w1 ⟨rfl,hb1⟩
 have HB1:=Lib.hid hb1
 obtain⟨d0,d1,d2,-⟩:=(HX0.out.later hb1 (by omega)).cells
 clear hb1 c0 c1 c2
 go_wp2_with fail
 refine(HM.out _ HB1.out).mono ?_
 rintro x w2 ⟨A2,cap2,rfl,hb2,hrow⟩
 have hb02:Below W0.heap.size W0 w2:=HB1.out.trans (hb2.mono HB1.out.size)
 have HBW:Hid (Below w.heap.size w w2):=Lib.hid (HB0.out.trans (hb02.mono (by omega)))
 have KS:Hid (∀W',Below w2.heap.size w2 W'->W'.cell? ⟨w.heap.size,0,none⟩=some (.string f)/\W'.cell? ⟨w.heap.size,1,none⟩=some (.int .u64 at')):=Lib.hid fun W' hW=>by
  obtain⟨z0,z1,-⟩:=(HX0.out.later (hb02.trans (hW.mono hb02.size)) (by omega)).cells
  exact⟨z0,z1⟩
 have HCC:Hid (∀W',Below w2.heap.size w2 W'->Calls Tryz.prog 71 #[.slice A2 es.length cap2] W' fun e w'=>∃v,e= .returned v/\BOwn w' W'.heap.size v bs.flatten/\Below W'.heap.size W' w'):=Lib.hid fun W' hW=>by
  have:=OL bs A2 cap2 W' (hrow.pin.later hW) (by have:=HFLAT.out;omega) (by omega)
  rwa [hbl] at this
 clear hb2 hb02 hrow d0 d1 d2
 go_upto_region 4 with fail
 refine wp_region_noPanic ?_
 refine wp_region_held_drew (S:=fun W':World=>W'.cell? ⟨w.heap.size,0,none⟩=some (.string f)/\W'.cell? ⟨w.heap.size,1,none⟩=some (.int .u64 at')) (by kernel_rfl) ?_ (fun hHeld=> ?_)
 ·exact KS.out _ (Da (Below.refl _ _))
 refine tk 0 rfl ?_
 refine tk 1 rfl ?_
 refine tk 3 rfl ?_
 refine tk 4 rfl ?_
 refine tk 6 rfl ?_
 refine tk 7 rfl ?_
 refine tk 8 rfl ?_
 refine tk 10 rfl ?_
 refine rd1 2 rfl fun K hK=> ?_
 go_simp
 refine(HT.out _).mono ?_
 rintro x v1 ⟨b1,rfl,hown,hb⟩
 obtain⟨A10,n10,c10,rfl⟩:=slice_form hown
 have HB1:Hid (Below w2.heap.size w2 v1):=Lib.hid (Below.trans (Da (Below.refl _ _)) hb)
 have HO1:=Lib.hid hown
 clear hown hb
 go_wp2_with fail
 refine hK.out _ _ (KS.out _ HB1.out) (fun hHeld2=> ?_)
 clear hK K
 try simp only[ap]
 refine rd1 5 rfl fun K hK=> ?_
 go_simp
 refine(HU.out _ _ hat).mono ?_
 rintro x v2 ⟨b2,rfl,hown,hb⟩
 obtain⟨A20,n20,c20,rfl⟩:=slice_form hown
 have HB2:Hid (Below w2.heap.size w2 v2):=Lib.hid (HB1.out.trans (hb.mono HB1.out.size))
 have HO2:=Lib.hid hown
 have HI1:=Lib.hid (HO1.out.read.later hb)
 clear hown hb
 go_wp2_with fail
 refine hK.out _ _ (KS.out _ HB2.out) (fun hHeld2=> ?_)
 clear hK K
 try simp only[ap]
 refine rd1 9 rfl fun K hK=> ?_
 go_simp
 rw[HWR.out]
 refine(HU.out _ _ hn64).mono ?_
 rintro x v3 ⟨b3,rfl,hown,hb⟩
 obtain⟨A30,n30,c30,rfl⟩:=slice_form hown
 have HB3:Hid (Below w2.heap.size w2 v3):=Lib.hid (HB2.out.trans (hb.mono HB2.out.size))
 have HO3:=Lib.hid hown
 have HJ1:=Lib.hid (HI1.out.later hb)
 have HI2:=Lib.hid (HO2.out.read.later hb)
 clear hown hb
 go_wp2_with fail
 refine hK.out _ _ (KS.out _ HB3.out) (fun hHeld2=> ?_)
 clear hK K
 try simp only[ap]
 refine rd1 11 rfl fun K hK=> ?_
 go_simp
 refine(HCC.out _ HB3.out).mono ?_
 rintro x v4 ⟨b4,rfl,hown,hb⟩
 obtain⟨A40,n40,c40,rfl⟩:=slice_form hown
 have HB4:Hid (Below w2.heap.size w2 v4):=Lib.hid (HB3.out.trans (hb.mono HB3.out.size))
 have HO4:=Lib.hid hown
 have HK1:=Lib.hid (HJ1.out.later hb)
 have HK2:=Lib.hid (HI2.out.later hb)
 have HK3:=Lib.hid (HO3.out.read.later hb)
 clear hown hb
 go_wp2_with fail
 refine hK.out _ _ (KS.out _ HB4.out) (fun hHeld2=> ?_)
 clear hK K
 try simp only[ap]
 refine rd1 12 rfl fun K hK=> ?_
 go_simp
 obtain⟨v5,hv5⟩:∃x,x=v4.alloc (.cells #[.slice A10 n10 c10,.slice A20 n20 c20,.slice A30 n30 c30,.slice A40 n40 c40] 100):=⟨_,rfl⟩
 rw[<-hv5]
 have hb:Below v4.heap.size v4 v5:=by rw[hv5];exact(Below.refl _ _).alloc (Nat.le_refl _) _
 have hblk:v5.heap[v4.heap.size]?=some (.cells #[.slice A10 n10 c10,.slice A20 n20 c20,.slice A30 n30 c30,.slice A40 n40 c40] 100 (0,0)):=by rw[hv5];exact heap_alloc_new v4 _
 have HPI : Hid (PIn v5 (some ⟨v4.heap.size, 0, none⟩) 4 [Dm 10 f.size ++ sb f, Dm 10 at', Dm 10 es.length, bs.flatten]) := Lib.hid ⟨by simp, by simp only [maxLen]; omega, fun _ => ⟨v4.heap.size, 0, rfl, (Array.getElem?_eq_some_iff.1 hblk).1, fun i hi => by
  simp only[List.length_cons,List.length_nil] at hi
  rcases (by omega:i=0\/i=1\/i=2\/i=3) with rfl|rfl|rfl|rfl
  ·exact⟨.slice A10 n10 c10,by simp[World.cell?,hblk],HK1.out.later hb⟩
  ·exact⟨.slice A20 n20 c20,by simp[World.cell?,hblk],HK2.out.later hb⟩
  ·exact⟨.slice A30 n30 c30,by simp[World.cell?,hblk],HK3.out.later hb⟩
  ·exact⟨.slice A40 n40 c40,by simp[World.cell?,hblk],HO4.out.read.later hb⟩⟩⟩
 have HB5:Hid (Below w2.heap.size w2 v5):=Lib.hid (HB4.out.trans (hb.mono HB4.out.size))
 have HC5:=Lib.hid (OL _ _ _ v5 HPI.out HSUM.out HLEN4.out)
 clear hb hblk
 replace hv5:=Lib.hid hv5
 refine hK.out _ _ (KS.out _ HB5.out) (fun hHeld2=> ?_)
 clear hK K
 try simp only[ap]
 refine rd1 13 rfl fun K hK=> ?_
 go_simp
 refine HC5.out.mono ?_
 rintro x v6 ⟨b6,rfl,hown,hb⟩
 have HB6:Hid (Below w2.heap.size w2 v6):=Lib.hid (HB5.out.trans (hb.mono HB5.out.size))
 have HO6:=Lib.hid hown
 clear hown hb
 go_wp2_with fail
 refine hK.out _ _ (KS.out _ HB6.out) (fun hHeld2=> ?_)
 clear hK K
 try simp only[ap]
 refine tk 14 rfl ?_
 refine tk 15 rfl ?_
 refine wpAnyH_done (by kernel_rfl) ?_ _
 refine NoPanic.normal ?_
 go_wp2_with fail
 refine bodyPost_ret (v:= .tuple #[b6,.bool true]) (by simp[results,Tryz.results41,go_sem]) rfl ?_
 refine⟨b6,rfl,?_,HBW.out.trans (HB6.out.mono HBW.out.size)⟩
 have h6:=HO6.out
 rw[HFL.out] at h6
 exact h6.base (by have:=HBW.out.size;have:=HB5.out.size;omega)):p:=h
theorem Kw (es:List EV)(hl40:es.length<=1099511627775)(bs:List (List Nat))(hEB:GU es bs)(hflat:bs.flatten.length<=17592186044416)(f:ByteArray)(at':Nat)(hat:at'<18446744073709551616)(A:Option Addr)(cap:Nat)(w:World)(h:EvsIn w A cap es)(hval:Dy f at' es=true) :
  Calls Tryz.prog 41 #[.agg #[.string f,.int .u64 at',.slice A es.length cap]] w fun r w'=>∃v,r= .returned (.tuple #[v,.bool true])/\BOwn w' w.heap.size v (Ln f at' es.length bs)/\Below w.heap.size w w':=by
 have hfz:f.size<=1000:=by
  unfold Dy at hval
  simp only[Bool.and_eq_true,decide_eq_true_iff] at hval
  exact hval.1.1.1.2
 open Q555 in exact M553
end Cn
namespace Vf
open _root_.Go.Proofs.YtaahfiopdoinkaaGreat.Nm (Di Fj Dk De)
open Bt (BOwn BIn Dm sb Fl Gz Si Dl bv)
open Pf (zz zz_lt be8 Og)
open Vt (VT Rep BoxAt Da KidsAt Fy)
theorem xor_ones (b:Nat)(hb:b<18446744073709551616):18446744073709551615 ^^^ b=18446744073709551615-b:=by
 have h1:(BitVec.allOnes 64 ^^^ BitVec.ofNat 64 b).toNat=18446744073709551615 ^^^ b:=by
  rw[BitVec.toNat_xor,BitVec.toNat_ofNat,Nat.mod_eq_of_lt (by omega)];rfl
 have h2:BitVec.allOnes 64 ^^^ BitVec.ofNat 64 b= ~~~(BitVec.ofNat 64 b):=BitVec.allOnes_xor
 rw[h2,BitVec.toNat_not,BitVec.toNat_ofNat,Nat.mod_eq_of_lt (by omega)] at h1
 omega
theorem zz_eq (n:Int)(h0 : -9223372036854775808<=n)(h1:n<=9223372036854775807):bits BinOp.xor IntKind.u64 (IntKind.u64.wrap (wrap64 (n*2))) (IntKind.u64.wrap (n/9223372036854775808))=((zz n:Nat):Int):=by
 rw[IntKind.wrap_u64,IntKind.wrap_u64]
 by_cases hn:0<=n
 ·have e1 : wrap64 (n * 2) % 18446744073709551616 = ((2 * n).toNat : Int) := by unfold wrap64; omega
  have e2:n/9223372036854775808%18446744073709551616=((0:Nat):Int):=by omega
  rw[e1,e2,bits_xor_u64_nat _ _ (by omega) (by omega),Nat.xor_zero,zz,if_pos hn]
 ·have e1 : wrap64 (n * 2) % 18446744073709551616 = ((2 * n + 18446744073709551616).toNat : Int) := by unfold wrap64; omega
  have e2:n/9223372036854775808%18446744073709551616=((18446744073709551615:Nat):Int):=by omega
  rw[e1,e2,bits_xor_u64_nat _ _ (by omega) (by omega),Nat.xor_comm,xor_ones _ (by omega),zz,if_neg hn]
  omega
theorem bint_any (n:Int)(h0 : -9223372036854775808<=n)(h1:n<=9223372036854775807)(w:World) :
  Calls Tryz.prog 209 #[.int .i64 n] w fun e w'=>∃v,e= .returned v/\BOwn w' w.heap.size v (Dm 10 (zz n))/\Below w.heap.size w w':=by
 have HU:=Lib.hid (Fl (zz n) (zz_lt h0 h1) w)
 have HZ:=Lib.hid (zz_eq n h0 h1)
 go_enter Tryz.func209,Tryz.ntmps209
 go_wp2_with fail
 rw[HZ.out]
 refine HU.out.mono ?_
 rintro x w1 ⟨v,rfl,ho,hb⟩
 have HO:=Lib.hid ho;have HB:=Lib.hid hb
 clear ho hb
 go_wp2_with fail
 go_ret
 exact⟨v,rfl,HO.out,HB.out⟩
def KB (w:World)(l:List Nat)(r:Ending)(w':World):Prop:=∃v,r= .returned v/\BOwn w' w.heap.size v l/\Below w.heap.size w w'
theorem M101 (h:p:=by
 go_upto_region 1 with fail
 rw[<-hW0.out]
 go_wp2_with fail
 refine HI.out.mono ?_
 rintro x w1 ⟨v,rfl,ho,hb⟩
 have HO:=Lib.hid (ho.base HB0.out.size);have HB:=Lib.hid (HB0.out.trans (hb.mono HB0.out.size))
 clear ho hb
 go_wp2_with fail
 go_ret
 exact⟨v,rfl,HO.out,HB.out⟩):p:=h
theorem M172 (h:p:=by
 rw[World.size_alloc] at e
 exact e):p:=h
theorem Q748.Y747 (h:p:=by
 have hx0:BoxAt W0 (w.heap.size+1) k n f s A m c:=by
  rw[hW0]
  have e:=heap_alloc_new (w.alloc (.cells #[] 256)) (.cells #[.int .i64 k,.int .i64 n,.float .f64 f,.string s,.slice A m c] 34)
  exact M172
 obtain⟨c0,c1,c2,c3,c4⟩:=hx0.cells
 have HI:=Lib.hid (bint_any n h0 h1 W0)
 replace hW0:=Lib.hid hW0
 go_enter Tryz.func206,Tryz.ntmps206
 exact M101):p:=h
theorem M747 (h:p:=by
 have HB0:Hid (Below w.heap.size w W0):=Lib.hid (by rw[hW0];exact((Below.refl _ _).alloc (Nat.le_refl _) _).alloc (by simp) _)
 exact Y747):p:=h
theorem Nw (x:Value)(hx:x= .agg #[])(k n:Int)(h0 : -9223372036854775808<=n)(h1:n<=9223372036854775807)(f:Nat)(s:ByteArray)(A:Option Addr)(m c:Nat)(w:World) :
  Calls Tryz.prog 206 #[x,.agg #[.int .i64 k,.int .i64 n,.float .f64 f,.string s,.slice A m c]] w (KB w (Dm 10 (zz n))):=by
 subst hx
 obtain⟨W0,hW0⟩:∃W0,W0=(w.alloc (.cells #[] 256)).alloc (.cells #[.int .i64 k,.int .i64 n,.float .f64 f,.string s,.slice A m c] 34):=⟨_,rfl⟩
 open Q748 in exact M747
theorem Q749.Y747 (h:p:=by
 have hx0:BoxAt W0 (w.heap.size+1) k n f s A m c:=by
  rw[hW0]
  have e:=heap_alloc_new (w.alloc (.cells #[] 258)) (.cells #[.int .i64 k,.int .i64 n,.float .f64 f,.string s,.slice A m c] 34)
  exact M172
 obtain⟨c0,c1,c2,c3,c4⟩:=hx0.cells
 have HI:=Lib.hid (Gz s hs W0)
 replace hW0:=Lib.hid hW0
 go_enter Tryz.func213,Tryz.ntmps213
 exact M101):p:=h
theorem JB (x:Value)(hx:x= .agg #[])(k n:Int)(f:Nat)(s:ByteArray)(hs:s.size<=100000)(A:Option Addr)(m c:Nat)(w:World) :
  Calls Tryz.prog 213 #[x,.agg #[.int .i64 k,.int .i64 n,.float .f64 f,.string s,.slice A m c]] w (KB w (Og s)):=by
 subst hx
 obtain⟨W0,hW0⟩:∃W0,W0=(w.alloc (.cells #[] 258)).alloc (.cells #[.int .i64 k,.int .i64 n,.float .f64 f,.string s,.slice A m c] 34):=⟨_,rfl⟩
 open Q749 in exact M747
theorem Gp (v j:Nat):((be8 v).take j).length<=8:=by
 rw[List.length_take];exact Nat.min_le_right j 8
theorem Gj (w:World)(x:Int)(b:Nat)(hx:x=(b:Int)):BIn (w.alloc (.cells #[.int .u8 x] 5)) (.slice (some ⟨w.heap.size,0,none⟩) 1 1) [b]:=by
 subst hx
 refine .inr ⟨⟨w.heap.size,0,none⟩,1,rfl,by simp,by simp only[maxLen];omega,by simp,fun j u hu=> ?_⟩
 have hj:j=0:=by have:=(List.getElem?_eq_some_iff.1 hu).1;simp at this;omega
 subst hj
 simp[bv] at hu
 subst hu
 have e:=heap_alloc_new w (.cells #[.int .u8 (b:Int)] 5)
 rw[Go.WideShapes.add_plain]
 simp only[World.cell?,e]
 rfl
theorem Q750.Y747 (h:p:=by
 have hz0:w.heap.size+1<W0.heap.size:=by rw[hW0];simp
 have hx0:BoxAt W0 (w.heap.size+1) k n f s A m c:=by
  rw[hW0]
  have e:=heap_alloc_new (w.alloc (.cells #[] 257)) (.cells #[.int .i64 k,.int .i64 n,.float .f64 f,.string s,.slice A m c] 34)
  exact M172
 have HX0:=Lib.hid hx0
 obtain⟨v,hv⟩:∃v,v=Di f:=⟨_,rfl⟩
 have hvl:v<18446744073709551616:=by rw[hv];exact Pf.bits_lt hf
 have HBI:Hid (∀W,Calls Tryz.prog 170 #[.float .f64 f] W fun e w'=>e= .returned (.int .u64 v)/\W=w'):=Lib.hid fun W=>by rw[hv];exact Fj f W
 rw[<-hv]
 clear hv hx0
 replace hW0:=Lib.hid hW0
 have HVL:=Lib.hid hvl;clear hvl
 go_enter Tryz.func210,Tryz.ntmps210
 go_upto_region 1 with fail
 rw[<-hW0.out]
 go_wp2_with fail
 go_loopw [5,6] (fun out i wr=>∃(j:Nat) (sh:Int),j<=8/\sh=56-8*(j:Int)/\i= .int .i64 sh/\BOwn wr W0.heap.size out ((be8 v).take j)/\Below W0.heap.size W0 wr) (fun _ i _=>(intOf i+8).toNat)
 case atStart=>exact⟨0,56,by omega,by omega,rfl,Si _ _,Below.refl _ _⟩
 case round=>
  obtain⟨j,sh,hj,hsh,rfl,hown,hb⟩:=hrel
  obtain⟨-,-,c2,-,-⟩:=(HX0.out.later hb hz0).cells
  have HO:=Lib.hid hown;have HB:=Lib.hid hb
  clear hown hb
  rcases (by omega:j=0\/j=1\/j=2\/j=3\/j=4\/j=5\/j=6\/j=7\/j=8) with rfl|rfl|rfl|rfl|rfl|rfl|rfl|rfl|rfl
  ·obtain rfl : sh = 56 := by omega
   clear hsh
   go_wp2_with fail
   refine(HBI.out _).mono ?_
   rintro x w1 ⟨rfl,rfl⟩
   have HN:=Lib.hid (Gj wr (IntKind.u8.wrap (v/72057594037927936:Int)) (v/72057594037927936%256) (by rw[IntKind.wrap_u8];omega))
   go_wp2_with (at_builtin;refine Dl _ rfl _ _ rfl W0.heap.size _ _ ((be8 v).take 0) [v/72057594037927936%256] rfl rfl (HO.out.later ((Below.refl _ _).alloc (Nat.le_refl _) _)) HN.out (Nat.le_trans (Nat.add_le_add (Gp v _) (Nat.le_refl 1)) (by decide)) (by simp;exact Nat.le_succ_of_le HB.out.size) ?_;intro v2 w2 hown2 hg2 hb2;have HO2:=Lib.hid hown2;have HB2:=Lib.hid ((HB.out.alloc HB.out.size _).trans hb2);clear hown2 hb2)
   exact⟨⟨1,48,by omega,by omega,by go_num,HO2.out,HB2.out⟩,by simp[intOf]⟩
  ·obtain rfl : sh = 48 := by omega
   clear hsh
   go_wp2_with fail
   refine(HBI.out _).mono ?_
   rintro x w1 ⟨rfl,rfl⟩
   have HN:=Lib.hid (Gj wr (IntKind.u8.wrap (v/281474976710656:Int)) (v/281474976710656%256) (by rw[IntKind.wrap_u8];omega))
   go_wp2_with (at_builtin;refine Dl _ rfl _ _ rfl W0.heap.size _ _ ((be8 v).take 1) [v/281474976710656%256] rfl rfl (HO.out.later ((Below.refl _ _).alloc (Nat.le_refl _) _)) HN.out (Nat.le_trans (Nat.add_le_add (Gp v _) (Nat.le_refl 1)) (by decide)) (by simp;exact Nat.le_succ_of_le HB.out.size) ?_;intro v2 w2 hown2 hg2 hb2;have HO2:=Lib.hid hown2;have HB2:=Lib.hid ((HB.out.alloc HB.out.size _).trans hb2);clear hown2 hb2)
   exact⟨⟨2,40,by omega,by omega,by go_num,HO2.out,HB2.out⟩,by simp[intOf]⟩
  ·obtain rfl : sh = 40 := by omega
   clear hsh
   go_wp2_with fail
   refine(HBI.out _).mono ?_
   rintro x w1 ⟨rfl,rfl⟩
   have HN:=Lib.hid (Gj wr (IntKind.u8.wrap (v/1099511627776:Int)) (v/1099511627776%256) (by rw[IntKind.wrap_u8];omega))
   go_wp2_with (at_builtin;refine Dl _ rfl _ _ rfl W0.heap.size _ _ ((be8 v).take 2) [v/1099511627776%256] rfl rfl (HO.out.later ((Below.refl _ _).alloc (Nat.le_refl _) _)) HN.out (Nat.le_trans (Nat.add_le_add (Gp v _) (Nat.le_refl 1)) (by decide)) (by simp;exact Nat.le_succ_of_le HB.out.size) ?_;intro v2 w2 hown2 hg2 hb2;have HO2:=Lib.hid hown2;have HB2:=Lib.hid ((HB.out.alloc HB.out.size _).trans hb2);clear hown2 hb2)
   exact⟨⟨3,32,by omega,by omega,by go_num,HO2.out,HB2.out⟩,by simp[intOf]⟩
  ·obtain rfl : sh = 32 := by omega
   clear hsh
   go_wp2_with fail
   refine(HBI.out _).mono ?_
   rintro x w1 ⟨rfl,rfl⟩
   have HN:=Lib.hid (Gj wr (IntKind.u8.wrap (v/4294967296:Int)) (v/4294967296%256) (by rw[IntKind.wrap_u8];omega))
   go_wp2_with (at_builtin;refine Dl _ rfl _ _ rfl W0.heap.size _ _ ((be8 v).take 3) [v/4294967296%256] rfl rfl (HO.out.later ((Below.refl _ _).alloc (Nat.le_refl _) _)) HN.out (Nat.le_trans (Nat.add_le_add (Gp v _) (Nat.le_refl 1)) (by decide)) (by simp;exact Nat.le_succ_of_le HB.out.size) ?_;intro v2 w2 hown2 hg2 hb2;have HO2:=Lib.hid hown2;have HB2:=Lib.hid ((HB.out.alloc HB.out.size _).trans hb2);clear hown2 hb2)
   exact⟨⟨4,24,by omega,by omega,by go_num,HO2.out,HB2.out⟩,by simp[intOf]⟩
  ·obtain rfl : sh = 24 := by omega
   clear hsh
   go_wp2_with fail
   refine(HBI.out _).mono ?_
   rintro x w1 ⟨rfl,rfl⟩
   have HN:=Lib.hid (Gj wr (IntKind.u8.wrap (v/16777216:Int)) (v/16777216%256) (by rw[IntKind.wrap_u8];omega))
   go_wp2_with (at_builtin;refine Dl _ rfl _ _ rfl W0.heap.size _ _ ((be8 v).take 4) [v/16777216%256] rfl rfl (HO.out.later ((Below.refl _ _).alloc (Nat.le_refl _) _)) HN.out (Nat.le_trans (Nat.add_le_add (Gp v _) (Nat.le_refl 1)) (by decide)) (by simp;exact Nat.le_succ_of_le HB.out.size) ?_;intro v2 w2 hown2 hg2 hb2;have HO2:=Lib.hid hown2;have HB2:=Lib.hid ((HB.out.alloc HB.out.size _).trans hb2);clear hown2 hb2)
   exact⟨⟨5,16,by omega,by omega,by go_num,HO2.out,HB2.out⟩,by simp[intOf]⟩
  ·obtain rfl : sh = 16 := by omega
   clear hsh
   go_wp2_with fail
   refine(HBI.out _).mono ?_
   rintro x w1 ⟨rfl,rfl⟩
   have HN:=Lib.hid (Gj wr (IntKind.u8.wrap (v/65536:Int)) (v/65536%256) (by rw[IntKind.wrap_u8];omega))
   go_wp2_with (at_builtin;refine Dl _ rfl _ _ rfl W0.heap.size _ _ ((be8 v).take 5) [v/65536%256] rfl rfl (HO.out.later ((Below.refl _ _).alloc (Nat.le_refl _) _)) HN.out (Nat.le_trans (Nat.add_le_add (Gp v _) (Nat.le_refl 1)) (by decide)) (by simp;exact Nat.le_succ_of_le HB.out.size) ?_;intro v2 w2 hown2 hg2 hb2;have HO2:=Lib.hid hown2;have HB2:=Lib.hid ((HB.out.alloc HB.out.size _).trans hb2);clear hown2 hb2)
   exact⟨⟨6,8,by omega,by omega,by go_num,HO2.out,HB2.out⟩,by simp[intOf]⟩
  ·obtain rfl : sh = 8 := by omega
   clear hsh
   go_wp2_with fail
   refine(HBI.out _).mono ?_
   rintro x w1 ⟨rfl,rfl⟩
   have HN:=Lib.hid (Gj wr (IntKind.u8.wrap (v/256:Int)) (v/256%256) (by rw[IntKind.wrap_u8];omega))
   go_wp2_with (at_builtin;refine Dl _ rfl _ _ rfl W0.heap.size _ _ ((be8 v).take 6) [v/256%256] rfl rfl (HO.out.later ((Below.refl _ _).alloc (Nat.le_refl _) _)) HN.out (Nat.le_trans (Nat.add_le_add (Gp v _) (Nat.le_refl 1)) (by decide)) (by simp;exact Nat.le_succ_of_le HB.out.size) ?_;intro v2 w2 hown2 hg2 hb2;have HO2:=Lib.hid hown2;have HB2:=Lib.hid ((HB.out.alloc HB.out.size _).trans hb2);clear hown2 hb2)
   exact⟨⟨7,0,by omega,by omega,by go_num,HO2.out,HB2.out⟩,by simp[intOf]⟩
  ·obtain rfl : sh = 0 := by omega
   clear hsh
   go_wp2_with fail
   refine(HBI.out _).mono ?_
   rintro x w1 ⟨rfl,rfl⟩
   have HN:=Lib.hid (Gj wr (IntKind.u8.wrap (v:Int)) (v%256) (by rw[IntKind.wrap_u8];omega))
   go_wp2_with (at_builtin;refine Dl _ rfl _ _ rfl W0.heap.size _ _ ((be8 v).take 7) [v%256] rfl rfl (HO.out.later ((Below.refl _ _).alloc (Nat.le_refl _) _)) HN.out (Nat.le_trans (Nat.add_le_add (Gp v _) (Nat.le_refl 1)) (by decide)) (by simp;exact Nat.le_succ_of_le HB.out.size) ?_;intro v2 w2 hown2 hg2 hb2;have HO2:=Lib.hid hown2;have HB2:=Lib.hid ((HB.out.alloc HB.out.size _).trans hb2);clear hown2 hb2)
   exact⟨⟨8,-8,by omega,by omega,by go_num,HO2.out,HB2.out⟩,by simp[intOf]⟩
  ·obtain rfl : sh = -8 := by omega
   clear hsh
   go_wp2_with fail
   go_ret
   exact⟨_,rfl,HO.out.base HB0.out.size,HB0.out.trans (HB.out.mono HB0.out.size)⟩):p:=h
theorem YV (x:Value)(hx:x= .agg #[])(k n:Int)(f:Nat)(hf:f<18446744073709551616)(s:ByteArray)(A:Option Addr)(m c:Nat)(w:World) :
  Calls Tryz.prog 210 #[x,.agg #[.int .i64 k,.int .i64 n,.float .f64 f,.string s,.slice A m c]] w (KB w (be8 (Di f))):=by
 subst hx
 obtain⟨W0,hW0⟩:∃W0,W0=(w.alloc (.cells #[] 257)).alloc (.cells #[.int .i64 k,.int .i64 n,.float .f64 f,.string s,.slice A m c] 34):=⟨_,rfl⟩
 open Q750 in exact M747
open Bt (GP)
open Vt (On Fs)
open Ev (take_drop tk ap rd1 rd2 Dh)
def KI (w:World)(l:List Nat)(r:Ending)(w':World):Prop:=∃v,r= .returned v/\BIn w' v l/\Below w.heap.size w w'
theorem KB.ki {w:World}{l:List Nat}{r:Ending}{w':World}(h:KB w l r w'):KI w l r w':=by
 obtain⟨v,h1,h2,h3⟩:=h
 exact⟨v,h1,h2.read,h3⟩
theorem Oq (k : Nat) (hk : k <= 4) (T M : Nat) (lk : List Nat) (hlk : lk.length <= 1000000) (vn : Int) (vf : Nat) (vs : ByteArray) (A : Option Addr) (m c : Nat) (w : World)
  (hO:∀W,Calls Tryz.prog 169 #[.int .i64 (k:Nat)] W fun e w'=>e= .returned (.iface T (.agg #[]))/\W=w')
  (hM:∀n w,(method (n+1) T (.agg #[]) "clockwork/value.bytes").run Tryz.prog w= .ok (M,.agg #[]) w)
  (hcall:∀args w,(callFunc M args).run Tryz.prog w= .ok (.enter M args) w)
  (hB:∀W,Below w.heap.size w W->Calls Tryz.prog M #[.agg #[],.agg #[.int .i64 (k:Nat),.int .i64 vn,.float .f64 vf,.string vs,.slice A m c]] W (KI W lk)) :
  Calls Tryz.prog 140 #[.agg #[.int .i64 (k:Nat),.int .i64 vn,.float .f64 vf,.string vs,.slice A m c]] w (KB w (Dm 10 k++lk)):=by
 obtain⟨W0,hW0⟩:∃W0,W0=w.alloc (.cells #[.int .i64 (k:Nat),.int .i64 vn,.float .f64 vf,.string vs,.slice A m c] 34):=⟨_,rfl⟩
 have hB0:Below w.heap.size w W0:=by rw[hW0];exact(Below.refl _ _).alloc (Nat.le_refl _) _
 have hbx:BoxAt W0 w.heap.size k vn vf vs A m c:=by rw[hW0];exact BoxAt.new ..
 have hz:w.heap.size<W0.heap.size:=by rw[hW0];simp
 have HBX:Hid (∀W,Below W0.heap.size W0 W->BoxAt W w.heap.size k vn vf vs A m c):=Lib.hid fun W hW=>hbx.later hW hz
 have HU:Hid (∀W,Calls Tryz.prog 73 #[.int .u64 (k:Nat)] W fun e w'=>∃v,e= .returned v/\BOwn w' W.heap.size v (Dm 10 k)/\Below W.heap.size W w'):=Lib.hid fun W=>Fl k (by omega) W
 have HWR:Hid (IntKind.u64.wrap (k:Int)=(k:Int)):=Lib.hid (IntWalk.u64_in _ (by omega))
 have HO:=Lib.hid hO
 have HNB:Hid (∀W,Below W0.heap.size W0 W->Calls Tryz.prog M #[.agg #[],.agg #[.int .i64 (k:Nat),.int .i64 vn,.float .f64 vf,.string vs,.slice A m c]] W (KI W lk)):=Lib.hid fun W hW=>hB W (hB0.trans (hW.mono hB0.size))
 have HB0:=Lib.hid hB0
 have HLK:=Lib.hid hlk
 obtain⟨c0,c1,c2,c3,c4⟩:=hbx.cells
 clear hB0 hbx hO hB hlk
 replace hW0:=Lib.hid hW0
 go_enter Tryz.func140,Tryz.ntmps140
 go_upto_region 1 with fail
 rw[<-hW0.out]
 have HS:Hid (∀W',Below W0.heap.size W0 W'->(W'.cell? ⟨w.heap.size,0,none⟩=some (.int .i64 (k:Nat))/\W'.cell? ⟨w.heap.size,1,none⟩=some (.int .i64 vn)/\W'.cell? ⟨w.heap.size,2,none⟩=some (.float .f64 vf)/\W'.cell? ⟨w.heap.size,3,none⟩=some (.string vs)/\W'.cell? ⟨w.heap.size,4,none⟩=some (.slice A m c))):=Lib.hid fun W hW=>(HBX.out W hW).cells
 clear c0 c1 c2 c3 c4
 refine wp_region_noPanic ?_
 refine wp_region_held_drew (S:=(fun W':World=>W'.cell? ⟨w.heap.size,0,none⟩=some (.int .i64 (k:Nat))/\W'.cell? ⟨w.heap.size,1,none⟩=some (.int .i64 vn)/\W'.cell? ⟨w.heap.size,2,none⟩=some (.float .f64 vf)/\W'.cell? ⟨w.heap.size,3,none⟩=some (.string vs)/\W'.cell? ⟨w.heap.size,4,none⟩=some (.slice A m c))) (by kernel_rfl) ?_ (fun hHeld=> ?_)
 ·exact HS.out _ (Da (Below.refl _ _))
 refine tk 0 rfl ?_
 refine tk 1 rfl ?_
 refine tk 2 rfl ?_
 refine tk 4 rfl ?_
 refine tk 5 rfl ?_
 refine tk 7 rfl ?_
 refine rd1 3 rfl fun K hK=> ?_
 go_simp
 rw[HWR.out]
 refine(HU.out _).mono ?_
 rintro e w1 ⟨v1,rfl,ho1,hb1⟩
 have h1B:Hid (Below W0.heap.size W0 w1):=Lib.hid ((Da (Below.refl _ _)).trans hb1)
 have HO1:=Lib.hid (ho1.base (Nat.le_refl _:W0.heap.size<=W0.drew.heap.size))
 clear ho1 hb1
 go_wp2_with fail
 refine hK.out _ _ (HS.out _ h1B.out) (fun hHeld2=> ?_)
 clear hK K
 try simp only[ap]
 refine rd1 6 rfl fun K hK=> ?_
 go_simp
 refine(HO.out _).mono ?_
 rintro e w2 ⟨rfl,rfl⟩
 go_wp2_with fail
 refine hK.out _ _ (HS.out _ h1B.out) (fun hHeld2=> ?_)
 clear hK K
 try simp only[ap]
 refine rd1 8 rfl fun K hK=> ?_
 go_simp
 refine(HNB.out _ h1B.out).mono ?_
 rintro e w3 ⟨v3,rfl,hin3,hb3⟩
 have h3B:Hid (Below W0.heap.size W0 w3):=Lib.hid (h1B.out.trans (hb3.mono h1B.out.size))
 have HO3:=Lib.hid (HO1.out.later hb3)
 have HI3:=Lib.hid hin3
 clear hb3 hin3
 go_wp2_with fail
 refine hK.out _ _ (HS.out _ h3B.out) (fun hHeld2=> ?_)
 clear hK K
 try simp only[ap]
 refine rd1 9 rfl fun K hK=> ?_
 refine GP _ rfl (.tmp 6) (.tmp 11) rfl W0.heap.size v1 v3 (Dm 10 k) lk (by simp[Act.eval]) (by simp[Act.eval]) HO3.out HI3.out (by have:=HLK.out;have:=Bt.Dv 10 k;omega) h3B.out.size ?_
 intro v4 w4 hown4 hg4 hb4
 have h4B:=Lib.hid (h3B.out.trans hb4)
 refine hK.out _ _ (HS.out _ h4B.out) (fun hHeld2=> ?_)
 clear hK K
 try simp only[ap]
 refine tk 10 rfl ?_
 refine wpAnyH_done (by kernel_rfl) ?_ _
 refine NoPanic.normal ?_
 go_wp2_with fail
 go_ret
 exact⟨v4,rfl,hown4.base HB0.out.size,HB0.out.trans (h4B.out.mono HB0.out.size)⟩
theorem m_none (n:Nat)(w:World):(method (n+1) 260 (.agg #[]) "clockwork/value.bytes").run Tryz.prog w= .ok (219,.agg #[]) w:=by kernel_rfl
theorem m_int (n:Nat)(w:World):(method (n+1) 256 (.agg #[]) "clockwork/value.bytes").run Tryz.prog w= .ok (206,.agg #[]) w:=by kernel_rfl
theorem m_float (n:Nat)(w:World):(method (n+1) 257 (.agg #[]) "clockwork/value.bytes").run Tryz.prog w= .ok (210,.agg #[]) w:=by kernel_rfl
theorem m_text (n:Nat)(w:World):(method (n+1) 258 (.agg #[]) "clockwork/value.bytes").run Tryz.prog w= .ok (213,.agg #[]) w:=by kernel_rfl
theorem m_list (n:Nat)(w:World):(method (n+1) 259 (.agg #[]) "clockwork/value.bytes").run Tryz.prog w= .ok (216,.agg #[]) w:=by kernel_rfl
theorem e_none (args:Array Value)(w:World):(callFunc 219 args).run Tryz.prog w= .ok (.enter 219 args) w:=by kernel_rfl
theorem e_int (args:Array Value)(w:World):(callFunc 206 args).run Tryz.prog w= .ok (.enter 206 args) w:=by kernel_rfl
theorem e_float (args:Array Value)(w:World):(callFunc 210 args).run Tryz.prog w= .ok (.enter 210 args) w:=by kernel_rfl
theorem e_text (args:Array Value)(w:World):(callFunc 213 args).run Tryz.prog w= .ok (.enter 213 args) w:=by kernel_rfl
theorem e_list (args:Array Value)(w:World):(callFunc 216 args).run Tryz.prog w= .ok (.enter 216 args) w:=by kernel_rfl
theorem UL (k n:Int)(f:Nat)(s:ByteArray)(A:Option Addr)(m c:Nat)(w:World) :
  Calls Tryz.prog 219 #[.agg #[],.agg #[.int .i64 k,.int .i64 n,.float .f64 f,.string s,.slice A m c]] w (KI w []):=by
 go_enter Tryz.func219,Tryz.ntmps219
 go_wp2_with fail
 go_ret
 exact⟨_,rfl,.inl ⟨rfl,rfl⟩,((Below.refl _ _).alloc (Nat.le_refl _) _).alloc (by simp) _⟩
theorem PN (l:List VT)(j:Nat)(h:j<l.length):((l.take (j+1)).map Pf.VT.form).flatten=((l.take j).map Pf.VT.form).flatten++Pf.VT.form l[j]:=by
 rw[List.take_succ_eq_append_getElem h,List.map_append,List.flatten_append];simp
theorem YU (l:List VT)(j:Nat):((l.take j).map Pf.VT.form).flatten.length<=(l.map Pf.VT.form).flatten.length:=by
 have:((l.take j++l.drop j).map Pf.VT.form).flatten.length=(l.map Pf.VT.form).flatten.length:=by rw[List.take_append_drop]
 rw[List.map_append,List.flatten_append,List.length_append] at this
 omega
theorem Q751.Y747 (h:p:=by
 have hz0:w.heap.size+1<W0.heap.size:=by rw[hW0];simp
 have hx0:BoxAt W0 (w.heap.size+1) k n f s A l.length cap:=by
  rw[hW0]
  have e:=heap_alloc_new (w.alloc (.cells #[] 259)) (.cells #[.int .i64 k,.int .i64 n,.float .f64 f,.string s,.slice A l.length cap] 34)
  exact M172
 have HX0:=Lib.hid hx0
 obtain⟨c0,c1,c2,c3,c4⟩:=hx0.cells
 have HK:=Lib.hid (hk.later (HB0.out.mono hz))
 have IH:=Lib.hid ih
 have HU:=Lib.hid (Fl l.length (by omega) W0)
 have HWR:Hid (IntKind.u64.wrap (l.length:Int)=(l.length:Int)):=Lib.hid (IntWalk.u64_in _ (by omega))
 have HLEN:=Lib.hid hlen
 have hhi:hi<=W0.heap.size:=Nat.le_trans hz HB0.out.size
 replace hW0:=Lib.hid hW0
 clear hx0 hk ih hlen
 go_enter Tryz.func216,Tryz.ntmps216
 go_upto_region 1 with fail
 rw[<-hW0.out]
 go_wp2_with fail
 refine HU.out.mono ?_
 rintro x w1 ⟨v1,rfl,ho1,hb1⟩
 have HO1:=Lib.hid ho1;have HB1:=Lib.hid hb1
 obtain⟨d0,d1,d2,d3,d4⟩:=(HX0.out.later hb1 hz0).cells
 clear ho1 hb1 c0 c1 c2 c3 c4
 go_wp2_with fail
 clear d0 d1 d2 d3 d4
 go_loopw [5,16] (fun out i wr=>∃(j:Nat),j<=l.length/\i= .int .i64 j/\BOwn wr W0.heap.size out (Dm 10 l.length++((l.take j).map Pf.VT.form).flatten)/\Below W0.heap.size W0 wr) (fun _ i _=>l.length-(intOf i).toNat)
 case atStart=>exact⟨0,by omega,rfl,by simpa using HO1.out,HB1.out⟩
 case round=>
  obtain⟨j,hj,rfl,hown,hb⟩:=hrel
  have HO:=Lib.hid hown;have HB:=Lib.hid hb
  clear hown hb
  by_cases hlt:j<l.length
  ·obtain ⟨b, off, rfl, hb1, hb2, h3⟩ := (HK.out.later (HB.out.mono hhi)).at_ (by omega)
   obtain⟨k',n',f',s',L',A',cap',e,g0,g1,g2,g3,g4,hrj⟩:=h3 j hlt
   obtain⟨W1,hW1⟩:∃W1,W1=wr.alloc (.cells #[.int .i64 k',.int .i64 n',.float .f64 f',.string s',.slice A' L'.length cap'] 34):=⟨_,rfl⟩
   have hba:Below wr.heap.size wr W1:=by rw[hW1];exact(Below.refl _ _).alloc (Nat.le_refl _) _
   have hx1:BoxAt W1 wr.heap.size k' n' f' s' A' L'.length cap':=by rw[hW1];exact BoxAt.new ..
   have hhr:hi<=wr.heap.size:=Nat.le_trans hhi HB.out.size
   have HF:=Lib.hid (IH.out j hlt W1 lo hi _ (hrj.later (hba.mono hhr)) (Nat.le_trans hhr hba.size))
   have HOA:=Lib.hid (HO.out.later hba)
   have HBA:=Lib.hid (HB.out.trans (hba.mono HB.out.size))
   obtain⟨c0,c1,c2,c3,c4⟩:=hx1.cells
   have HFT:=Lib.hid (PN l j hlt)
   have HLE:Hid ((Dm 10 l.length++((l.take j).map Pf.VT.form).flatten).length+(Pf.VT.form l[j]).length<=35184372088832):=Lib.hid (by
    have h1:=YU l (j+1)
    rw[PN l j hlt,List.length_append] at h1
    have h2:=HLEN.out
    have h4:=Bt.Dv 10 l.length
    rw[List.length_append]
    omega)
   replace hW1:=Lib.hid hW1
   clear h3 hrj e hba hx1
   obtain⟨acc,hacc⟩:∃a,a=Dm 10 l.length++((l.take j).map Pf.VT.form).flatten:=⟨_,rfl⟩
   rw[<-hacc] at HOA HLE
   have HACC:=Lib.hid hacc
   obtain⟨fj,hfj⟩:∃a,a=Pf.VT.form l[j]:=⟨_,rfl⟩
   rw[<-hfj] at HF HLE
   have HFJ:=Lib.hid hfj
   clear hacc hfj HO
   go_upto_region 5 with fail
   rw[<-hW1.out]
   clear g0 g1 g2 g3 g4
   go_wp2_with fail
   refine HF.out.mono ?_
   rintro x w2 ⟨v2,rfl,ho2,hb2⟩
   have HOB:=Lib.hid (HOA.out.later hb2)
   have HI2:=Lib.hid ho2.read
   have HBB:=Lib.hid (HBA.out.trans (hb2.mono HBA.out.size))
   clear ho2 hb2 c0 c1 c2 c3 c4
   go_wp2_with (at_builtin;refine Dl _ rfl _ _ rfl W0.heap.size _ _ acc fj rfl rfl HOB.out HI2.out HLE.out HBB.out.size ?_;intro v3 w3 hown3 hg3 hb3;have HO3:=Lib.hid hown3;have HB3:=Lib.hid (HBB.out.trans hb3);clear hown3 hb3)
   exact⟨⟨j+1,by omega,by go_num,by rw[HFT.out, <-List.append_assoc, <-HACC.out, <-HFJ.out];exact HO3.out,HB3.out⟩,by simp[intOf];omega⟩
  ·have hj' : j = l.length := by omega
   subst hj'
   go_wp2_with fail
   go_ret
   have h:=HO.out
   rw[List.take_length] at h
   exact⟨_,rfl,h.base HB0.out.size,HB0.out.trans (HB.out.mono HB0.out.size)⟩):p:=h
theorem JZ (k n : Int) (f : Nat) (s : ByteArray) (l : List VT) (A : Option Addr) (cap : Nat) (hl : l.length <= cap) (hcap : cap <= maxLen) (w : World) (lo hi : Nat) (hk : KidsAt w lo hi l A) (hz : hi <= w.heap.size) (hlen : (l.map Pf.VT.form).flatten.length <= 500000)
  (ih:∀i (h:i<l.length) (W:World) (lo hi:Nat) (v:Value),Rep W lo hi l[i] v->hi<=W.heap.size->Calls Tryz.prog 140 #[v] W (KB W (Pf.VT.form l[i]))) :
  Calls Tryz.prog 216 #[.agg #[],.agg #[.int .i64 k,.int .i64 n,.float .f64 f,.string s,.slice A l.length cap]] w (KB w (Dm 10 l.length++(l.map Pf.VT.form).flatten)):=by
 simp only[maxLen] at hcap
 obtain⟨W0,hW0⟩:∃W0,W0=(w.alloc (.cells #[] 259)).alloc (.cells #[.int .i64 k,.int .i64 n,.float .f64 f,.string s,.slice A l.length cap] 34):=⟨_,rfl⟩
 open Q751 in exact M747
theorem flat_sum (l:List VT):(l.map Pf.VT.form).flatten.length=(l.map (fun t=>(Pf.VT.form t).length)).sum:=by
 rw[List.length_flatten,List.map_map];rfl
theorem XT (l:List VT):∀(n m:Int) (C:Int),0<=C->Vt.Dz l n m<=m->(∀(i:Nat) (hi:i<l.length) (m':Int),m'<=m->l[i].weight m'<=m'->((Pf.VT.form l[i]).length:Int)<=C*l[i].weight m')->0<=n->C*n+((l.map (fun t=>(Pf.VT.form t).length)).sum:Int)<=C*Vt.Dz l n m:=by
 induction l with
 | nil=>intro n m C hC h hk hn;rw[Vt.SK];simp
 | cons t l ih=>
  intro n m C hC h hk hn
  rw[Vt.FM] at h ⊢
  by_cases hnm:n<=m
  ·rw [if_pos hnm] at h ⊢
   have hw:=Vt.Ob t (m-n)
   have hge:=Vt.Gh l (n+t.weight (m-n)) m
   have h1:=hk 0 (by simp) (m-n) (by omega) (by simp only[List.getElem_cons_zero];omega)
   simp only[List.getElem_cons_zero] at h1
   have h2:=ih (n+t.weight (m-n)) m C hC h (fun i hi m' hm' hw'=>hk (i+1) (by simpa using hi) m' hm' hw') (by omega)
   simp only[List.map_cons,List.sum_cons]
   rw[Int.mul_add] at h2
   push_cast
   omega
  ·rw [if_neg hnm] at h
   omega
theorem PO (t:VT):∀m:Int,m<=900->t.weight m<=m->((Pf.VT.form t).length:Int)<=24*t.weight m:=by
 induction t using VT.ind with
 | _ k n f s l ih=>
  intro m hm h
  rw[Vt.FX] at h ⊢
  have hge:=Vt.Gh l (1+min (s.size:Int) 1000) m
  have hs:=XT l (1+min (s.size:Int) 1000) m 24 (by omega) h (fun i hi m' hm' hw'=>ih i hi m' (by omega) hw') (by omega)
  rw[Pf.Xy,List.length_append]
  have h1:=Bt.Dv 10 k.toNat
  have h2:=Bt.Dv 10 (zz n)
  have h3:=Bt.Dv 10 s.size
  have h4:=Bt.Dv 10 l.length
  have h5:=Bt.Ox s
  have h6:=flat_sum l
  have hss:(s.size:Int)<=900:=by omega
  have e:((if k=1 then Dm 10 (zz n) else if k=2 then be8 (Di f) else if k=3 then Og s else if k=4 then Dm 10 l.length++(l.map Pf.VT.form).flatten else []).length:Int)<=11+s.size+(l.map (fun t=>(Pf.VT.form t).length)).sum:=by
   have hnn:(0:Int)<=((l.map (fun t=>(Pf.VT.form t).length)).sum:Int):=Int.natCast_nonneg _
   split
   ·omega
   ·split
    ·simp[be8];omega
    ·split
     ·unfold Og;rw[List.length_append];omega
     ·split
      ·rw[List.length_append,h6];push_cast;omega
      ·simp;omega
  push_cast
  omega
theorem OH {t:VT}(h:t.few=true):(Pf.VT.form t).length<=21600:=by
 unfold VT.few at h
 rw[Bool.and_eq_true,decide_eq_true_iff] at h
 have:=PO t 900 (by omega) h.1
 omega
theorem form_any (t:VT):∀(d:Nat) (w:World) (lo hi:Nat) (v:Value),t.valid d=true->(Pf.VT.form t).length<=100000->t.Slim 900->Rep w lo hi t v->hi<=w.heap.size->Calls Tryz.prog 140 #[v] w (KB w (Pf.VT.form t)):=by
 induction t using VT.ind with
 | _ k n f s l ih=>
  intro d w lo hi v hv hlen hS hR hz
  obtain⟨A,cap,rfl,ho,hl,hk⟩:=hR.head
  obtain⟨hs9,hl9,hkS⟩:=Vt.Sa.1 hS
  rw[Pf.Xy] at hlen ⊢
  have hu:=Bt.Dv 10 k.toNat
  rw[List.length_append] at hlen
  rcases Pf.SL hv with ⟨rfl,-⟩|⟨rfl,-⟩|⟨rfl,-⟩|⟨rfl,-⟩|⟨rfl,-,-,-,hkv⟩
  ·exact Oq 0 (by omega) 260 219 [] (by simp) n f s A l.length cap w (fun W=>Fs 0 W) m_none e_none (fun W hW=>UL _ _ _ _ _ _ _ W)
  ·exact Oq 1 (by omega) 256 206 (Dm 10 (zz n)) (by have:=Bt.Dv 10 (zz n);omega) n f s A l.length cap w (fun W=>Fs 1 W) m_int e_int (fun W hW=>(Nw _ rfl _ n ho.n0 ho.n1 f s A _ _ W).mono fun _ _ h=>h.ki)
  ·exact Oq 2 (by omega) 257 210 (be8 (Di f)) (by simp[be8]) n f s A l.length cap w (fun W=>Fs 2 W) m_float e_float (fun W hW=>(YV _ rfl _ n f ho.f1 s A _ _ W).mono fun _ _ h=>h.ki)
  ·exact Oq 3 (by omega) 258 213 (Og s) (by have:=Bt.Dv 10 s.size;have:=Bt.Ox s;unfold Og;rw[List.length_append];omega) n f s A l.length cap w (fun W=>Fs 3 W) m_text e_text (fun W hW=>(JB _ rfl _ n f s (by omega) A _ _ W).mono fun _ _ h=>h.ki)
  ·rw [if_neg (by omega), if_neg (by omega), if_neg (by omega), if_pos rfl] at hlen ⊢
   rw[List.length_append] at hlen
   have hfl:∀i (h:i<l.length),(Pf.VT.form l[i]).length<=100000:=fun i hi=>by
    have h1:=YU l (i+1)
    rw[PN l i hi,List.length_append] at h1
    omega
   refine Oq 4 (by omega) 259 216 _ (by rw[List.length_append];omega) n f s A l.length cap w (fun W=>Fs 4 W) m_list e_list (fun W hW=> ?_)
   exact(JZ _ n f s l A cap hl ho.m1 W lo hi (hk.later (hW.mono hz)) (Nat.le_trans hz hW.size) (by omega) (fun i hi W lo hi' v h1 h2=>ih i hi (d-1) W lo hi' v (hkv _ (List.getElem_mem hi)) (hfl i hi) (hkS i hi) h1 h2)).mono fun _ _ h=>h.ki
theorem Jz (t:VT)(hfew:t.few=true)(lo hi:Nat)(vk vn:Int)(vf:Nat)(vs:ByteArray)(A:Option Addr)(m c:Nat)(w:World)(hv:Rep w lo hi t (.agg #[.int .i64 vk,.int .i64 vn,.float .f64 vf,.string vs,.slice A m c]))(hz:hi<=w.heap.size)(hval:t.valid 8=true) :
  Calls Tryz.prog 105 #[.agg #[.int .i64 vk,.int .i64 vn,.float .f64 vf,.string vs,.slice A m c]] w fun e w'=>∃v,e= .returned (.tuple #[v,.bool true])/\BOwn w' w.heap.size v (Pf.VT.form t)/\Below w.heap.size w w':=by
 obtain⟨W0,hW0⟩:∃W0,W0=w.alloc (.cells #[.int .i64 vk,.int .i64 vn,.float .f64 vf,.string vs,.slice A m c] 34):=⟨_,rfl⟩
 have hB0:Below w.heap.size w W0:=by rw[hW0];exact(Below.refl _ _).alloc (Nat.le_refl _) _
 have hbx:BoxAt W0 w.heap.size vk vn vf vs A m c:=by rw[hW0];exact BoxAt.new ..
 have hz0:w.heap.size<W0.heap.size:=by rw[hW0];simp
 have HBX:Hid (∀W,Below W0.heap.size W0 W->BoxAt W w.heap.size vk vn vf vs A m c):=Lib.hid fun W hW=>hbx.later hW hz0
 have HV:=Lib.hid (Vt.VA t W0 lo hi _ (hv.later (hB0.mono hz)) (Nat.le_trans hz hB0.size))
 rw[hval] at HV
 have HF:=Lib.hid fun W (hW:Below W0.heap.size W0 W)=>form_any t 8 W lo hi _ hval (by have:=OH hfew;omega) (Vt.SP t hfew) ((hv.later (hB0.mono hz)).later (hW.mono (Nat.le_trans hz hB0.size))) (Nat.le_trans hz (Nat.le_trans hB0.size hW.size))
 have HB0:=Lib.hid hB0
 obtain⟨c0,c1,c2,c3,c4⟩:=hbx.cells
 clear hB0 hbx hv
 replace hW0:=Lib.hid hW0
 go_enter Tryz.func105,Tryz.ntmps105
 go_upto_region 1 with fail
 rw[<-hW0.out]
 go_wp2_with fail
 refine HV.out.mono ?_
 rintro e w1 ⟨rfl,hb1⟩
 obtain⟨d0,d1,d2,d3,d4⟩:=(HBX.out w1 hb1).cells
 have HB1:=Lib.hid hb1
 clear hb1 c0 c1 c2 c3 c4
 go_wp2_with fail
 refine(HF.out _ HB1.out).mono ?_
 rintro e w2 ⟨v,rfl,hown,hb2⟩
 have HO2:=Lib.hid hown
 have HB2:=Lib.hid hb2
 clear hown hb2
 go_wp2_with fail
 have hz1:=Nat.le_trans HB0.out.size HB1.out.size
 exact bodyPost_ret (v:= .tuple #[v,.bool true]) (by simp[results,Tryz.results105,go_sem]) rfl ⟨v,rfl,HO2.out.base hz1,HB0.out.trans ((HB1.out.trans (HB2.out.mono HB1.out.size)).mono HB0.out.size)⟩
open Bt (sel Pe)
open Pf (VG)
open Ev (EV Dj Db Dn EBox SJ zeroT fieldsOf nameOf Lc GJ OR DB)
open Cm (Gr)
def FA (e:EV)(j:Nat):Bool:=(fieldsOf e.k.toNat).contains j
def Gu (e:EV):List Nat:=[1]++Dm 10 e.k.toNat++sel [FA e 0,FA e 1,FA e 2,FA e 3,FA e 4,FA e 5] [Dm 10 e.id,Dm 10 e.n.toNat,Dm 10 e.at',Og e.name,Og e.text,Pf.VT.form e.v] 6
structure VE (e : EV) : Prop where
 k1:1<=e.k
 k2:e.k<=11
 i0:FA e 0=false->e.id=0
 i1:FA e 0=true->0<e.id
 n0:FA e 1=false->e.n=0
 n1:0<=e.n
 n2:e.n<=2147483647
 n3:FA e 1=true->1<=e.n
 a0:FA e 2=false->e.at'=0
 a1:e.at'<=9223372036854775807
 s0:FA e 3=false->e.name=⟨#[]⟩
 s1:e.name.size<=1000
 s2:FA e 3=true->e.name.toList.isEmpty=false
 t0:FA e 4=false->e.text=⟨#[]⟩
 t1:e.text.size<=1000
 v0:FA e 5=false->e.v.same zeroT=true
 v1:e.v.valid 8=true
theorem toList_nil {s:ByteArray}(h:s.toList.isEmpty=true):s=⟨#[]⟩:=by
 rw[Vt.toList_data] at h
 cases s with | mk d=>simp at h;rw[h]
theorem XQ : zeroT.valid 8=true:=by unfold zeroT;rw[Vt.Oc];simp;decide
theorem ve_of {e:EV}(h:e.valid=true):VE e:=by
 unfold EV.valid OR at h
 simp only[Bool.and_eq_true,decide_eq_true_iff,List.all_cons,List.all_nil,Bool.and_true] at h
 obtain⟨⟨k1,k2⟩,h0,h1,h2,h3,h4,h5⟩:=h
 have pick:∀{b f z:Bool},DB b f z=true->(b=true->f=true)/\(b=false->z=true):=fun {b f z} hh=>by
  unfold DB at hh
  cases b with
  | true=>rw[if_pos rfl] at hh;exact⟨fun _=>hh,fun h=>Bool.noConfusion h⟩
  | false=>rw[if_neg (by simp)] at hh;exact⟨fun h=>Bool.noConfusion h,fun _=>hh⟩
 obtain⟨p0,q0⟩:=pick h0
 obtain⟨p1,q1⟩:=pick h1
 obtain⟨p2,q2⟩:=pick h2
 obtain⟨p3,q3⟩:=pick h3
 obtain⟨p4,q4⟩:=pick h4
 obtain⟨p5,q5⟩:=pick h5
 have e1:∀b:Bool,b=true\/b=false:=fun b=>by cases b<;>simp
 have fn:∀h:FA e 1=false,e.n=0:=fun h=>by have:=q1 h;simpa using this
 have tn:∀h:FA e 1=true,1<=e.n/\e.n<=2147483647:=fun h=>by have:=p1 h;simpa using this
 have fs:∀h:FA e 3=false,e.name=⟨#[]⟩:=fun h=>toList_nil (q3 h)
 have ts:∀h:FA e 3=true,e.name.toList.isEmpty=false/\e.name.size<=1000:=fun h=>by
  have:=p3 h
  simp only[Bool.and_eq_true,Bool.not_eq_true',decide_eq_true_iff] at this
  exact this
 have ft:∀h:FA e 4=false,e.text=⟨#[]⟩:=fun h=>toList_nil (q4 h)
 refine⟨k1,k2,fun h=>by have:=q0 h;simpa using this,fun h=>by have:=p0 h;simpa using this,fn,?_,?_,fun h=>(tn h).1,fun h=>by have:=q2 h;simpa using this,?_,fs,?_,fun h=>(ts h).1,ft,?_,fun h=>q5 h,?_⟩
 ·rcases e1 (FA e 1) with h | h
  ·have:=tn h;omega
  ·rw[fn h];omega
 ·rcases e1 (FA e 1) with h | h
  ·exact(tn h).2
  ·rw[fn h];omega
 ·rcases e1 (FA e 2) with h | h
  ·have:=p2 h;simpa using this
  ·have : e.at' = 0 := by have := q2 h; simpa using this
   omega
 ·rcases e1 (FA e 3) with h | h
  ·exact(ts h).2
  ·rw[fs h];decide
 ·rcases e1 (FA e 4) with h | h
  ·have:=p4 h;simpa using this
  ·rw[ft h];decide
 ·rcases e1 (FA e 5) with h | h
  ·exact p5 h
  ·rw[Vt.UF e.v zeroT 8 (q5 h)];exact XQ
theorem Kp (e:EV)(hval:e.valid=true)(hf:Dj e)(hfew:e.v.few=true)(lo hi:Nat)(vk vn:Int)(vf:Nat)(vs:ByteArray)(A:Option Addr)(m c:Nat)(w:World)(hv:Rep w lo hi e.v (Dn vk vn vf vs A m c))(hz:hi<=w.heap.size) :
  Calls Tryz.prog 70 #[.agg (Db e vk vn vf vs A m c)] w fun r w'=>∃v,r= .returned (.tuple #[v,.bool true])/\BOwn w' w.heap.size v (Gu e)/\Below w.heap.size w w':=by
 have V:=ve_of hval
 have hev:=fun W (hW:Below w.heap.size w W)=>GJ e W lo hi _ ⟨hf,vk,vn,vf,vs,A,m,c,rfl,hv.later (hW.mono hz)⟩ (Nat.le_trans hz hW.size)
 obtain⟨kn,hkn⟩:∃kn:Nat,e.k=kn:=⟨e.k.toNat,by have:=V.k1;omega⟩
 obtain⟨nn,hnn⟩:∃nn:Nat,e.n=nn:=⟨e.n.toNat,by have:=V.n1;omega⟩
 have k1:=V.k1;have k2:=V.k2;have n2:=V.n2
 have hkt:e.k.toNat=kn:=by omega
 have hnt:e.n.toNat=nn:=by omega
 unfold Gu FA
 rw[hkt,hnt]
 unfold Db at hev ⊢
 rw[hkn,hnn] at hev ⊢
 exact Pe kn e.id nn e.at' e.name e.text (by omega) hf.i1 (by omega) hf.a1 V.s1 V.t1 vk vn vf vs A m c (nameOf kn) ((fieldsOf kn).contains 0) ((fieldsOf kn).contains 1) ((fieldsOf kn).contains 2) ((fieldsOf kn).contains 3) ((fieldsOf kn).contains 4) ((fieldsOf kn).contains 5) (Pf.VT.form e.v) (by have := OH hfew; omega) w
  (fun W hW=>(hev W hW).mono fun r w' h=>by rw[hval] at h;exact h)
  (fun W=>Lc kn (by omega) (by omega) W)
  (fun W hW=>Jz e.v hfew lo hi vk vn vf vs A m c W (hv.later (hW.mono hz)) (Nat.le_trans hz hW.size) V.v1)
theorem sel6 (b0 b1 b2 b3 b4 b5:Bool)(p0 p1 p2 p3 p4 p5:List Nat):sel [b0,b1,b2,b3,b4,b5] [p0,p1,p2,p3,p4,p5] 6=(if b0 then p0 else [])++((if b1 then p1 else [])++((if b2 then p2 else [])++((if b3 then p3 else [])++((if b4 then p4 else [])++(if b5 then p5 else []))))):=by simp[sel]
end Vf
namespace Cn
open _root_.Go.Proofs.YtaahfiopdoinkaaGreat.Nm (Di Dk De)
open Vt (VT Rep BoxAt Da DX DY KidsAt Fy)
open Ev (EV Dj Db Dn EBox SJ zeroT take_drop tk ap rd1 rd2 Dh nameOf fieldsOf Lc GJ)
open Cm (rowOf EvsIn EvsAt EvNew FU Gr)
open Bt (BOwn BIn PIn Dm sb bv Pe)
def BRd (w:World)(v:Value)(l:List Nat):Prop:=(v= .slice none 0 0/\l= [])\/∃b off cap,v= .slice (some ⟨b,off,none⟩) l.length cap/\l.length<=cap/\cap<=maxLen/\b<w.heap.size/\∀j (h:j<l.length),w.cell? ⟨b,off+j,none⟩=some (.int .u8 (l[j]:Nat))
theorem below_drewN {B n:Nat}{a w:World}(h:Below B a w):Below B a (w.drewN n):=⟨h.os,h.tape,h.output,h.size,h.block⟩
theorem BRd.later {w w':World}{v:Value}{l:List Nat}(h:BRd w v l)(hb:Below w.heap.size w w'):BRd w' v l:=by
 rcases h with h|⟨b,off,cap,h1,h2,h3,h4,h5⟩
 ·exact .inl h
 ·exact .inr ⟨b,off,cap,h1,h2,h3,Nat.lt_of_lt_of_le h4 hb.size,fun j hj=>(hb.cell (p:=⟨b,off+j,none⟩) h4).trans (h5 j hj)⟩
def e5 : EV:=⟨5,5,0,0,⟨#[]⟩,⟨#[]⟩,zeroT⟩
theorem PB : zeroT.valid 8=true:=by unfold zeroT;rw[Vt.Oc];simp;decide
end Cn
namespace Rd
open _root_.Go.Proofs.YtaahfiopdoinkaaGreat.Nm (Dk De)
open Vt (Da)
open Bt (BOwn BIn bv Gb)
open Cn (BRd)
open Cm (OnlyAt)
open Ev (take_drop tk ap rd1 rd2 Dh)
open Bt (Dm Fl)
end Rd
end Go.Proofs.YtaahfiopdoinkaaGreat
