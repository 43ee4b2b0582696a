/- References in memory, and the map of places. -/
import Derived.Test.YtaahfiopdoinkaaGreatTwao
import Derived.Test.YtaahfiopdoinkaaGreatTwaq
import Derived.Test.YtaahfiopdoinkaaGreatTwat
import Derived.Test.YtaahfiopdoinkaaGreatTwar
import Derived.Test.YtaahfiopdoinkaaGreatTwae
import Derived.Lib.AppendZeros
set_option maxRecDepth 100000
set_option maxHeartbeats 4000000
variable {p : Prop}
set_option linter.unusedVariables false
set_option linter.unusedSimpArgs false
open Go.RowKit
namespace Go.Proofs.YtaahfiopdoinkaaGreat
open Go.RowKit Go.ChangeShapes Go.WideShapes Go.WideMaps Go.Maps Go.ChangeMaps Go.MapKept
namespace Ta
open Hi (TK HM XM Dr DL GI PQ DW FH Gv CIn Chg Uf HR At)
open Cm (rowOf)
variable {w w' : World} {b n : Nat} {l : List HM}
def rfL (r:RF):List Value:=[.string r.flow,.int .u64 (r.id:Nat),.int .i64 r.n,.int .u64 (r.at':Nat)]
theorem KZ (r:RF):(rfL r).length=4:=rfl
theorem Xq (r:RF):∀v∈rfL r,v.oneCell'=true:=by
 intro v hv
 simp only[rfL,List.mem_cons,List.not_mem_nil,or_false] at hv
 rcases hv with rfl|rfl|rfl|rfl<;>rfl
theorem FC (l:List RF):∀v∈l.flatMap rfL,v.oneCell'=true:=fun v hv=>by
 obtain⟨r,-,h⟩:=List.mem_flatMap.1 hv
 exact Xq r v h
theorem FP (l:List RF):(l.flatMap rfL).length=l.length*4:=Hi.Pc rfL 4 KZ l
theorem Sc (l:List RF)(i q:Nat)(h:i<l.length)(hq:q<4):(l.flatMap rfL)[i*4+q]?=(rfL l[i])[q]?:=Hi.Gm rfL 4 KZ l i q h hq
def PMap (w:World)(b n:Nat)(l:List HM):Prop:=∃D:DataW Value,w.ownsMap Tryz.prog 9 HR b n D/\∀s:ByteArray,s.size<=maxLen->At D (.string s.data.toList) ((Dr l s).map fun i=> .int .i64 (i:Nat))
theorem zero_int (w:World):(zeroValue 3).run Tryz.prog w= .ok (.int .i64 0) w:=by rw[Tryz.zeroValue3]
theorem PMap.keep (h:PMap w b n l)(hk:w'.heap[b]?=w.heap[b]?):PMap w' b n l:=by
 obtain⟨D,h1,h2⟩:=h
 exact⟨D,DW h1 hk,h2⟩
theorem PMap.lt (h:PMap w b n l):b<w.heap.size:=let ⟨_,h1,_⟩:=h;h1.lt
theorem PMap.made (w:World):PMap (w.alloc (.map #[] 0)) w.heap.size 0 []:=⟨.map [],World.ownsMap_made _ _ _ _,fun s _=>At.empty _⟩
theorem PMap.look (h:PMap w b n l)(s:ByteArray)(hs:s.size<=maxLen)(W:World)(hW:W.heap[b]?=w.heap[b]?) :
  (Instr.lookup 109 (.map (some b)) (.string s) false).run Tryz.prog W= .ok (.int .i64 ((Dr l s).getD 0:Nat)) W:=by
 obtain⟨D,h1,h2⟩:=h
 have:=Hi.look1 (DW h1 hW) FH Tryz.underlying109 (zero_int W) (Gv s hs) (h2 s hs)
 rw[this]
 cases Dr l s<;>rfl
theorem PMap.put (h:PMap w b n l)(hn:n<maxLen)(g:HM)(hs:g.flow.size<=maxLen)(hx:Dr l g.flow=none) :
  ∃w',(Instr.mapUpdate 109 (.map (some b)) (.string g.flow) (.int .i64 (l.length:Nat))).run Tryz.prog w= .ok () w'/\PMap w' b (n+1) (l++ [g])/\w.mapTurned w' b:=by
 obtain⟨D,h1,h2⟩:=h
 obtain⟨w',hr,own,turn⟩:=h1.store FH Tryz.underlying109 hn (Gv g.flow hs) (d:= .held (.int .i64 (l.length:Nat))) (ps:=[]) rfl
 refine⟨w',hr,⟨_,own,fun s hs'=> ?_⟩,turn⟩
 rw[PQ hx]
 by_cases e:s=g.flow
 ·subst e
  rw[if_pos rfl]
  exact At.put h1.isMap (show WideAt.IsKeyLit (Lit.string g.flow.data.toList) from trivial) _
 ·rw [if_neg e]
  have k:=At.put_other (h2 s hs') (Uf e) (.int .i64 (l.length:Nat))
  cases hf:Dr l s with
  | none=>rw[hf] at k;exact k
  | some i=>rw[hf] at k;exact k
end Ta
end Go.Proofs.YtaahfiopdoinkaaGreat
namespace Go.Proofs.YtaahfiopdoinkaaGreat
namespace Hi
open _root_.Go.Proofs.YtaahfiopdoinkaaGreat.Nm (Dk De)
open Vt (VT Rep Da)
open Cm (rowOf EvsIn)
attribute [local go_sem] Oper.semAt_some
variable {E : Nat -> Prop} {w w' : World} {xb mb nm cN cR clk : Nat} {N R : Option Addr} {ps : List HB} {fl : List HM} {rl : List (List Nat)}
theorem all_new (p:Option Addr)(w:World):Calls Tryz.prog 89 #[.pointer p] w fun e w'=>e= .returned (.func (.func 120) #[] #[.pointer (some ⟨w.heap.size,0,none⟩)])/\w.alloc (.cells #[.pointer p] 24)=w':=by
 go_enter Tryz.func89,Tryz.ntmps89
 go_wp2_with fail
 go_ret
 exact⟨rfl,rfl⟩
theorem Kk (h:Fp fl)(i:Nat)(hi:i<fl.length):Dr fl fl[i].flow=some i:=by
 unfold Dr
 rw[List.findIdx?_eq_some_iff_getElem]
 refine⟨hi,O3,fun j hj=> ?_⟩
 have:=List.pairwise_iff_getElem.1 h j i O0 hi hj
 simpa using this
theorem all_in (n : Nat) (hn : 3 <= n) (l bx : Nat) (H : XP E w xb mb nm N cN R cR ps fl (fl.map (·.flow)) clk rl) (hap : Fp fl) (hfl : ∀ h ∈ fl, h.flow.size <= maxLen) (hlen : fl.length <= 1000000)
  (J:Nat->World->Prop) (B:Code->World->Prop) (L:World->Prop) (L':Code->World->Prop)
  (hJ:∀i W,J i W->Below w.heap.size w W/\W.cell? ⟨bx,0,none⟩=some (.pointer (some ⟨xb,0,none⟩)))
  (hY:∀(i:Nat) (p:HB) W,ps[i]?=some p->J i W->L W->YieldAt Fence.wide (n-1) Tryz.prog l #[.pointer (some ⟨p.hb,0,none⟩)] W fun e W'=>(e= .returned (.bool true)/\J (i+1) W'/\L W')\/(e= .returned (.bool false)/\∃c,B c W'/\L' c W'))
  (W0:World) (h0:J 0 W0) (hl0:L W0) :
  CallsIn Fence.wide n Tryz.prog 120 #[.func (.yield l) #[] #[],.pointer (some ⟨bx,0,none⟩)] W0 fun e W'=>(∃v,e= .returned v)/\((J fl.length W'/\L W')\/∃c,B c W'/\L' c W'):=by
 obtain⟨m,hm⟩:=Rm (fl.length)
 have hmn:(fl.map (·.flow)).length=m:=by simp[hm]
 obtain⟨hb0,b0⟩:=hJ 0 W0 h0
 obtain⟨c0,c1,c2,c3,-⟩:=DK (H.later hb0).blk
 rw[hmn] at c1
 rw[<-hm] at hlen
 rw[<-hm]
 have HX:=U H;have HAP:=U hap;have HFL:=U hfl;have HM0:=U hm;have HJ:=U hJ
 clear H hap hfl hb0 hmn hm hJ c2 c3
 refine callsIn_of_wp Tryz.func120 rfl trivial ?_ rfl
 simp only[Tryz.ntmps120,List.size_toArray,List.length_cons,List.length_nil,Nat.reduceAdd,Nat.reduceSub,Array.replicate_succ,Array.replicate_zero,List.push_toArray,List.append_toArray,List.nil_append,List.cons_append]
 gi_wp2
 gi_loopw [12] (fun z W=>∃i:Nat,i<=m/\z= .int .i64 i/\J i W/\L W) (fun z _=>m-(intOf z).toNat)
 case atStart=>exact⟨0,O0,rfl,h0,hl0⟩
 case round=>
  obtain⟨i,hi,rfl,hj,hl⟩:=hrel
  by_cases hlt:i<m
  ·obtain ⟨hb, b1⟩ := HJ.out i _ hj
   have HW:=HX.out.later hb
   have hil:i<fl.length:=by have:=HM0.out;omega
   obtain⟨d0,d1,-,-,-⟩:=DK HW.blk
   obtain⟨-,-,A,cap,hu,-,-,hrd⟩:=CIn.of_own HW.names (by intro x hx;obtain⟨s,-,rfl⟩:=List.mem_map.1 hx;rfl)
   have hmn:(fl.map (·.flow)).length=m:=by simp[HM0.out]
   rw[hmn] at hrd d1
   obtain⟨rN,off,rfl,hrl,hrc⟩:=hrd O0
   have hN:N=some ⟨rN,off,none⟩:=by injection hu
   subst hN
   have n1:wr.cell? ⟨rN,off+i,none⟩=some (.string fl[i].flow):=hrc i _ (by simp[hil])
   have hlk:=HW.map.look1 fl[i].flow (HFL.out _ (List.getElem_mem hil)) wr rfl
   have hps:i<ps.length:=by rw[HW.hs.len];exact hil
   have hpx:OY fl ps fl[i].flow=some (.pointer (some ⟨ps[i].hb,0,none⟩)):=by
    unfold OY
    rw[Kk HAP.out i hil]
    simp only[Option.bind_some]
    rw[List.getElem?_eq_getElem hps]
    rfl
   rw[hpx] at hlk
   simp only[Option.getD_some] at hlk
   obtain⟨fn,tmps,assign,body,hy,hR⟩:=hY i ps[i] wr (List.getElem?_eq_getElem hps) hj hl
   generalize ps[i].hb=qb at *
   generalize fl[i].flow=ff at *
   clear hrc hpx hrl hj hl HW c0 c1 b0 hb
   gi_wp2
   refine⟨fun _=>O0,hR.mono ?_⟩
   rintro e W3 (⟨rfl,ha,hl3⟩|⟨rfl,c,hb,hl3⟩)
   ·clear hR hy
    gi_wp2_with fail
    go_roundw
    case rel=>exact⟨i+1,O0,by go_num,ha,hl3⟩
    case measure=>simp[intOf];omega
   ·gi_wp2
    refine bodyPost_ret (results_none rfl _ _ _) rfl ?_
    exact⟨⟨_,rfl⟩,.inr ⟨c,hb,hl3⟩⟩
  ·have hie : i = m := O0
   subst hie
   clear c0 c1 b0
   gi_wp2
   go_end0
   exact⟨⟨_,rfl⟩,.inl ⟨hj,hl⟩⟩
open _root_.Go.Proofs.YtaahfiopdoinkaaGreat.Rt (Oj)
open Bt (FL FG)
attribute [local go_sem] Oper.semAt_some
theorem Tryz.infoXt : (Tryz.prog.info? 9).map (fun i=>(i.zero,i.size,i.bytes))=some (some (.string ⟨#[]⟩),1,16):=O2
theorem PY {F : Fence} {n : Nat} {P : Program} (w : World) {ops : Array Oper} {o : Oper} {a : Act} {K : Act -> World -> Prop} {Q : Exit -> Act -> World -> Prop}
  (hg:o.guard=none) (s x:Operand) (t:TypeId) (hop:o.op=Op.call {callee:=Callee.builtin Builtin.append,args:= #[s,x],argTypes:= #[t,t]})
  (base:Nat) (e:TypeId) (i:TypeInfo) (z:Value) (size bytes:Nat) (h1:P.underlying t=some (.slice e)) (h2:P.info? e=some i) (h3:i.zero=some z) (h4:i.size=size) (h5:i.bytes=bytes) (h6:z.cells.size=size) (h7:0<size)
  (v:Value) (k:Nat) (xs:List Value) (hs:a.eval s=v) (hown:w.ownsRow base e size v k xs) (ad:Addr) (m c:Nat) (news:List Value) (hx:a.eval x= .slice (some ad) m c) (hn:news.length=m*size)
  (hc:∀j u,news[j]?=some u->w.cell? (ad.add j)=some u) (h1c:∀u∈news,u.oneCell'=true) (b1:k+m<=maxLen) (b2:(k+m)*bytes<=140737488355328) (b3:base<=w.heap.size)
  (hK:∀v' w',w'.ownsRow base e size v' (k+m) (xs++news)->w.grownBy w' v.ownBlock->K (a.put o.dst v') w') :
  if Region.wanted o (yielded ops a.tmps)=true then Oper.wpIn F n P o a w K Q else (∀f,o.about P w a.eval=some f->F.fn f)/\K (a.put o.dst undef) w:=by
 have hw:Region.wanted o (yielded ops a.tmps)=true:=by simp[Region.wanted,hg]
 rw[if_pos hw]
 obtain⟨v',w',hrun,r1,r2,r3⟩:=run_append_own (P:=P) w base t o.type e i z size bytes h1 h2 h3 h4 h5 h6 h7 v k xs hown ad m c news hn hc h1c b1 b2 b3
 unfold Oper.wpIn
 refine⟨?_,?_⟩
 ·simp[Oper.about,hop,resolve,Target.leads,Sem.run_pure]
 ·rw [Oper.semAt_plain F _ _ (by rw [hop]; intro c hc'; cases hc')]
  simp[execOp,hop,resolve,invoke,builtin,hs,hx,hrun,Result.andThen]
  exact hK v' w' r1 r2
def NS (w:World)(m g bx xb:Nat)(fs:List ByteArray)(W:World):Prop:=
 (∃v,Boxed W g 81 v/\W.ownsRow w.heap.size 9 1 v fs.length (fs.map .string))/\Boxed W bx 24 (.pointer (some ⟨xb,0,none⟩))/\Below w.heap.size w W/\m<=W.heap.size
theorem NS.put {m g bx:Nat}{fs:List ByteArray}{W:World}{k:Nat}{o:Obj}(o':Obj)(h:NS w m g bx xb fs W)(hm:w.heap.size<=m)(hl:m<=k)(hk:W.heap[k]?=some o)(ho:o.isCells=false):NS w m g bx xb fs (W.putObj k o'):=by
 obtain⟨⟨v,h1,h2⟩,h3,h4,h5⟩:=h
 exact⟨⟨v,FL h1 o' hk ho,ownsRow_putObj h2 o' hk ho⟩,FL h3 o' hk ho,FG o' h4 O0 O0,by rw[World.putObj_size];exact h5⟩
theorem NS.alloc {m g bx:Nat}{fs:List ByteArray}{W:World}(h:NS w m g bx xb fs W)(hm:w.heap.size<=m)(o:Obj):NS w m g bx xb fs (W.alloc o):=by
 obtain⟨⟨v,h1,h2⟩,h3,h4,h5⟩:=h
 exact⟨⟨v,h1.alloc o,h2.alloc o⟩,h3.alloc o,h4.alloc O0 o,by simp;omega⟩
theorem Kc {W W':World}(h:KeepsOthers W.drew W'):KeepsOthers W W':=⟨h.1,h.2⟩
theorem NS.more {m bx : Nat} {fs : List ByteArray} {W : World} (h : NS w m w.heap.size bx xb fs W) (hm : w.heap.size <= m) (hg : w.heap.size ≠ bx) {v v' : Value} {W1 w1 : World} {f : ByteArray} (hv : Boxed W w.heap.size 81 v) (hrow : W.ownsRow w.heap.size 9 1 v fs.length (fs.map .string)) (hW1 : W1 = (W.drew).alloc (.cells #[.string f] 9))
  (hr:w1.ownsRow w.heap.size 9 1 v' (fs.length+1) (fs.map .string++ [.string f])) (hgr:W1.grownBy w1 v.ownBlock):KeepsOthers W (w1.setCell ⟨w.heap.size,0,none⟩ v')/\NS w m w.heap.size bx xb (fs++ [f]) (w1.setCell ⟨w.heap.size,0,none⟩ v')/\w1.cell? ⟨w.heap.size,0,none⟩=some v/\w1.frozen? ⟨w.heap.size,0,none⟩=false:=by
 obtain⟨-,hnum,hB,hz⟩:=h
 subst hW1
 obtain⟨hv1,hv2,hr2,hk2,hb2⟩:=(show Boxed W.drew w.heap.size 81 v from hv).appended O1 (show W.drew.ownsRow w.heap.size 9 1 v fs.length (fs.map .string) from hrow) hB.size (Nat.le_refl _) hr hgr
 have hn2:Boxed w1 bx 24 (.pointer (some ⟨xb,0,none⟩)):=((show Boxed W.drew bx _ _ from hnum).alloc _).kept hgr (hnum.not_row O1 hrow)
 have hn3:=hn2.kept (grownBy_setCell' w1 w.heap.size v') (fun e=>hg (Option.some.inj e).symm)
 have hz':W.drew.heap.size=W.heap.size:=rfl
 refine⟨Kc hk2,⟨⟨_,hv2,?_⟩,hn3,hB.trans ((Da (Below.refl _ _)).trans hb2),by have:=hk2.size;omega⟩,hv1.cell,hv1.frozen⟩
 rw[List.length_append,List.length_singleton,List.map_append]
 exact hr2
theorem M15 (h:p:=by
 refine hK _ _ ?_
 clear hK K
 try simp only[Act.put,List.setIfInBounds_toArray,List.set_cons_zero,List.set_cons_succ]
 refine wpAnyIn_ready (rs:=[4]) O2 O3 ?_
 refine AllReadyIn.cons rfl (fun K hK=> ?_) AllReadyIn.nil
 refine PY W1 rfl _ _ 81 rfl w.heap.size 9 i0 (.string ⟨#[]⟩) 1 16 Tryz.underlying81 hi hz0 hz1 hz2 rfl O1 v fs.length (fs.map .string) rfl (by rw[HW1.out];exact HROW.out.alloc _) ⟨W.heap.size,0,none⟩ 1 1 [.string ff] rfl rfl (by rw[HW1.out];exact cell_one_new W.drew _ _) (by simp[Value.oneCell']) (by simp only[maxLen];omega) O0 HS1.out ?_
 intro v' w1 hown' hgrow
 obtain⟨k1,k2,k3,k4⟩:=NS.more HNS.out (by have:=HZ2.out;omega) O0 HV.out HROW.out HW1.out hown' hgrow
 obtain⟨g',cap',rfl⟩:=ownsRow_succ hown'
 have HK12:=U (And.intro k1 k2)
 clear k1 k2 hown' hgrow hc1
 refine hK _ _ ?_
 clear hK K
 try simp only[Act.put,List.setIfInBounds_toArray,List.set_cons_zero,List.set_cons_succ]
 refine wpAnyIn_ready (rs:=[5]) O2 O3 ?_
 refine AllReadyIn.cons rfl (fun K hK=> ?_) AllReadyIn.nil
 go_simp
 refine hK _ _ ?_
 clear hK K
 try simp only[Act.put,List.setIfInBounds_toArray,List.set_cons_zero,List.set_cons_succ]
 refine wpAnyIn_done O2 ?_ _
 exact HK12.out):p:=h
theorem M639 (h:p:=by
 go_simp
 obtain⟨W1,hW1⟩:=Rm ((W.alloc (.cells #[.string ff] 9)).drew)
 rw[<-hW1]
 replace hW1:W1=W.drew.alloc (.cells #[.string ff] 9):=hW1
 have hc1:W1.cell? ⟨w.heap.size,0,none⟩=some v:=by rw[hW1];exact((show Boxed W.drew w.heap.size _ v from HV.out).alloc _).cell
 have HW1:=U hW1
 have HS1:Hid (w.heap.size<=W1.heap.size):=U (by rw[hW1];simp;omega)
 exact Y639):p:=h
theorem Q640.Y639 (h:p:=by
 clear hW1
 exact M15):p:=h
theorem M38 (h:p:=by
 try simp only[Act.put,List.setIfInBounds_toArray,List.set_cons_zero,List.set_cons_succ]
 refine wpAnyIn_ready (rs:=[3]) O2 O3 ?_
 refine AllReadyIn.cons rfl (fun K hK=> ?_) AllReadyIn.nil
 open Q640 in exact M639):p:=h
theorem M63 (h:p:=by
 go_simp
 refine hK _ _ ?_
 clear hK K
 try simp only[Act.put,List.setIfInBounds_toArray,List.set_cons_zero,List.set_cons_succ]
 refine wpAnyIn_ready (rs:=[2]) O2 O3 ?_
 refine AllReadyIn.cons rfl (fun K hK=> ?_) AllReadyIn.nil
 go_simp
 refine⟨trivial,(CallsIn.inRound l (callsIn_wide.2 HFC.out)).mono ?_⟩
 rintro e w3 ⟨rfl,rfl⟩
 gi_wp2_with fail
 try (refine hK _ _ ?_;clear hK K)
 exact M38):p:=h
theorem Q641.Y639 (h:p:=by
 clear hW1
 refine hK _ _ ?_
 clear hK K
 try simp only[Act.put,List.setIfInBounds_toArray,List.set_cons_zero,List.set_cons_succ]
 refine wpAnyIn_ready (rs:=[0]) O2 O3 ?_
 refine AllReadyIn.cons rfl (fun K hK=> ?_) AllReadyIn.nil
 go_simp
 exact M15):p:=h
theorem YM (H:XP E w xb mb nm N cN R cR ps fl (fl.map (·.flow)) clk rl)(hap:Fp fl)(hfl:∀h∈fl,h.flow.size<=maxLen)(hlen:fl.length<=1000000) :
  Calls Tryz.prog 59 #[.pointer (some ⟨xb,0,none⟩)] w fun e w'=>∃v,e= .returned v/\w'.ownsRow w.heap.size 9 1 v fl.length (fl.map fun h=> .string h.flow)/\Below w.heap.size w w':=by
 obtain⟨i0,hi,hz0,hz1,hz2⟩:=info_parts Tryz.infoXt
 have HX:=U H;have HAP:=U hap;have HFL:=U hfl;have HLN:=U hlen
 clear H hap hfl hlen
 refine(callsIn_wide (n:=9)).1 ?_
 refine callsIn_of_wp_marks Tryz.func59 rfl trivial ?_ rfl
 simp only[Tryz.ntmps59,List.size_toArray,List.length_cons,List.length_nil,Nat.reduceAdd,Nat.reduceSub,Array.replicate_succ,Array.replicate_zero,List.push_toArray,List.append_toArray,List.nil_append,List.cons_append]
 gi_wp2_with fail
 refine⟨trivial,(callsIn_wide.2 (all_new _ _)).mono ?_⟩
 rintro e W2 ⟨rfl,hW2⟩
 gi_wp2_with fail
 have hz2w:W2.heap.size=w.heap.size+1+1:=by rw[<-hW2];simp
 have u0:NS w W2.heap.size w.heap.size (w.heap.size+1) xb [] W2:=by
  rw[<-hW2]
  have b0:=(Boxed.new w 81 (.slice none 0 0)).alloc (.cells #[.pointer (some ⟨xb,0,none⟩)] 24)
  have b1:=Boxed.new (w.alloc (.cells #[.slice none 0 0] 81)) 24 (.pointer (some ⟨xb,0,none⟩))
  rw[World.size_alloc] at b1
  exact⟨⟨_,b0,rfl,.inl ⟨rfl,rfl⟩⟩,b1,((Below.refl _ w).alloc (Nat.le_refl _) _).alloc O3 _,Nat.le_refl _⟩
 have HZ2:=U hz2w
 clear hW2
 refine Oj (σ := Nat × HB) rfl O0 (gf := 120) (lb := #[.pointer (some ⟨w.heap.size + 1, 0, none⟩)]) rfl trivial (enters_of Tryz.func120 O2 rfl)
  (fun s=> #[.pointer (some ⟨s.2.hb,0,none⟩)]) (fun _=>rfl)
  (fun s W=>ps[s.1]?=some s.2/\NS w W2.heap.size w.heap.size (w.heap.size+1) xb ((fl.take s.1).map HM.flow) W)
  (fun s W=>NS w W2.heap.size w.heap.size (w.heap.size+1) xb ((fl.take (s.1+1)).map HM.flow) W)
  (fun _ _=>False)
  (fun W=>NS w W2.heap.size w.heap.size (w.heap.size+1) xb (fl.map HM.flow) W)
  (fun s W l o o' h hl ho hc=>⟨h.1,h.2.put o' O0 hl ho hc⟩)
  (fun s W l o o' h hl ho hc=>h.put o' O0 hl ho hc)
  (fun c W l o o' h hl ho hc=>h)
  (fun W l o o' h hl ho hc=>h.put o' O0 hl ho hc)
  (fun s=>{tmps:= #[.pointer (some ⟨xb,0,none⟩),undef,.slice none 0 0,.pointer (some ⟨w.heap.size,0,none⟩),.pointer (some ⟨s.2.hb,0,none⟩),.pointer (some ⟨xb,0,none⟩),.func (.func 120) #[] #[.pointer (some ⟨w.heap.size+1,0,none⟩)],.pointer (some ⟨s.2.hb,0,none⟩),undef,undef,undef,undef,undef,undef],defers:=[]})
  ?assign ?body ?iter ?done ?stop
 case assign=>
  intro l s W K hK
  gi_wp2
  exact hK
 case body=>
  rintro l ⟨i,p⟩ W ⟨hpi,hns⟩
  obtain⟨h,hfh,hat⟩:=HX.out.hs.own hpi
  have hil:=(List.getElem?_eq_some_iff.1 hfh).1
  have hst:(fl.take (i+1)).map (·.flow)=(fl.take i).map (·.flow)++ [h.flow]:=by
   rw[List.take_succ_eq_append_getElem hil,List.map_append]
   rw[List.getElem?_eq_getElem hil] at hfh
   rw[Option.some.inj hfh];rfl
  rw[hst]
  clear hst
  obtain⟨⟨v,hv,hrow⟩,hnum,hB,hm⟩:=hns
  have hlk:((fl.take i).map (·.flow)).length<=1000000:=by rw[List.length_map,List.length_take];have:=HLN.out;omega
  generalize (fl.take i).map (·.flow)=fs at *
  have HNS:Hid (NS w W2.heap.size w.heap.size (w.heap.size+1) xb fs W):=U ⟨⟨v,hv,hrow⟩,hnum,hB,hm⟩
  have hc:=hv.cell
  have hgl:w.heap.size<W.heap.size:=O0
  have hfc:∀W',W'=W.drew->Calls Tryz.prog 90 #[.pointer (some ⟨p.hb,0,none⟩)] W' fun r w'=>r= .returned (.string h.flow)/\w'=W':=fun W' e=>NA (HAt.later (HAt.later hat hB) (by rw[e];exact Da (Below.refl _ _)))
  have HFC:=U (hfc _ rfl)
  have HV:=U hv;have HROW:=U hrow;have HB:=U hB
  clear hfc hat hpi hfh hnum hm hv hrow hB
  dsimp only
  generalize p.hb=qb at *
  generalize h.flow=ff at *
  gi_wp2_with fail
  refine wpIn_region_any O2 ?_
  change wpAnyIn _ _ _ _ _ _ _ _ _ (World.drew _)
  refine wpAnyIn_ready (rs:=[0,1]) O2 O3 ?_
  refine AllReadyIn.cons rfl (fun K hK=> ?_) (AllReadyIn.cons rfl (fun K hK=> ?_) AllReadyIn.nil)
  ·go_simp
   refine hK _ _ ?_
   clear hK K
   try simp only[Act.put,List.setIfInBounds_toArray,List.set_cons_zero,List.set_cons_succ]
   refine wpAnyIn_ready (rs:=[1]) O2 O3 ?_
   refine AllReadyIn.cons rfl (fun K hK=> ?_) AllReadyIn.nil
   exact M63
  ·go_simp
   refine hK _ _ ?_
   clear hK K
   try simp only[Act.put,List.setIfInBounds_toArray,List.set_cons_zero,List.set_cons_succ]
   refine wpAnyIn_ready (rs:=[0,2]) O2 O3 ?_
   refine AllReadyIn.cons rfl (fun K hK=> ?_) (AllReadyIn.cons rfl (fun K hK=> ?_) AllReadyIn.nil)
   ·exact M63
   ·go_simp
    refine⟨trivial,(CallsIn.inRound l (callsIn_wide.2 HFC.out)).mono ?_⟩
    rintro e w3 ⟨rfl,rfl⟩
    gi_wp2_with fail
    try (refine hK _ _ ?_;clear hK K)
    try simp only[Act.put,List.setIfInBounds_toArray,List.set_cons_zero,List.set_cons_succ]
    refine wpAnyIn_ready (rs:=[0,3]) O2 O3 ?_
    refine AllReadyIn.cons rfl (fun K hK=> ?_) (AllReadyIn.cons rfl (fun K hK=> ?_) AllReadyIn.nil)
    ·go_simp
     refine hK _ _ ?_
     clear hK K
     exact M38
    ·open Q641 in exact M639
 case iter=>
  intro l o o' L L' ho ho' hLs hLd hY hl0
  refine (all_in 8 O0 l (w.heap.size + 1) HX.out HAP.out HFL.out HLN.out
   (fun i W=>NS w W2.heap.size w.heap.size (w.heap.size+1) xb ((fl.take i).map HM.flow) W)
   (fun _ _=>False) L L'
   (fun i W h=>⟨h.2.2.1,h.2.1.cell⟩) (fun i p W hp h hl=>hY (i,p) W ⟨hp,h⟩ hl) _ ((u0.alloc O0 _).alloc O0 _) hl0).mono ?_
  rintro e W' ⟨hv,⟨h,hl⟩|⟨c,hc,-⟩⟩
  ·rw [List.take_length] at h
   exact⟨hv,.inl ⟨h,hl⟩⟩
  ·exact hc.elim
 case done=>
  rintro D W hD ⟨⟨v,hv,hrow⟩,hnum,hB,hm⟩ hK
  have hc:=hv.cell
  gi_wp2
  refine⟨O3,.inl ⟨_,_,rfl,run_takeDeferred hK,?_⟩⟩
  refine⟨_,results_tmp rfl _ _ _,v,rfl,?_,FG _ hB O0 O0⟩
  have e:(fl.map (·.flow)).map Value.string=fl.map (fun h=> .string h.flow):=by rw[List.map_map];rfl
  rw[e,List.length_map] at hrow
  exact ownsRow_putObj hrow _ hK rfl
 case stop=>
  rintro D c W hD h hK
  exact h.elim
end Hi
namespace Ta
open _root_.Go.Proofs.YtaahfiopdoinkaaGreat.Nm (Dk De)
open Vt (Da)
open Hi (TK HM XM XGood XAt Good Dr DL GI CIn Chg HB HAt Dx DP YM Sr Sv Um TkIn TmIn DA TOk GC Dq Ol Ld tot PA FE FZ)
open Cm (rowOf)
attribute [local go_sem] Oper.semAt_some
variable {E Z : Nat -> Prop} {w w' : World} {xb : Nat} {x : XM}
theorem Tryz.infoRef : (Tryz.prog.info? 57).map (fun i=>(i.zero,i.size,i.bytes))=some (some (.agg #[.string ⟨#[]⟩,.int .u64 0,.int .i64 0,.int .u64 0]),4,40):=O2
theorem Od {e:TypeId}{i0:TypeInfo}{k:Nat}(hi:Tryz.prog.info? e=some i0)(h1:i0.size=k):∀w,(Go.sizeOf e).run Tryz.prog w= .ok k w:=fun w=>by
 rw[run_sizeOf _ hi];simp[Program.cellsOf,hi,h1]
theorem DS {base n k:Nat}{T:TypeId}{u:Value}{xs:List Value}(h:w.ownsRow base T k u n xs):∃A c,u= .slice A n c/\∀r,rowOf A=some r->base<=r:=by
 rcases h.2 with ⟨rfl,h0⟩|⟨r,cp,cur,rfl,q2,q3⟩
 ·exact⟨none,0,by rw[h0],fun r h=>by cases h⟩
 ·exact⟨_,_,rfl,fun r' h=>by cases h;exact q2⟩
theorem own_lt {base n k c:Nat}{T:TypeId}{A:Option Addr}{xs:List Value}(h:w.ownsRow base T k (.slice A n c) n xs):∀r,rowOf A=some r->base<=r/\r<w.heap.size:=by
 rcases h.2 with ⟨e,-⟩|⟨r,cp,cur,e,q2,q3,-⟩
 ·cases e;intro r h;cases h
 ·cases e;intro r' h;cases h;exact⟨q2,(Array.getElem?_eq_some_iff.1 q3).1⟩
theorem Fh {base n k:Nat}{T:TypeId}{v:Value}{xs:List Value}(h:w.ownsRow base T k v n xs)(hb:Below w.heap.size w w'):w'.ownsRow base T k v n xs:=by
 obtain⟨A,c,rfl,-⟩:=DS h
 exact Dx h fun r hr=>hb.block r (own_lt h r hr).2
theorem own_ge {base n k:Nat}{T:TypeId}{v:Value}{xs:List Value}(h:w.ownsRow base T k v n xs):∀r,v.ownBlock=some r->base<=r:=by
 obtain⟨A,c,rfl,-⟩:=DS h
 intro r hr
 exact(own_lt h r (by cases A with | none=>cases hr|some a=>exact hr)).1
def Gt (fl:List HM)(rs out:List RF):Prop:=out.length=rs.length/\∀(W:World) (A:Option Addr) (c pb nn base:Nat),PMap W pb nn fl->pb<base->base<=W.heap.size->W.ownsRow base 57 4 (.slice A rs.length c) rs.length (rs.flatMap rfL)->
 Calls Tryz.prog 60 #[.slice A rs.length c,.func (.func 46) #[.map (some pb)] #[]] W fun e w'=>(∃v,e= .returned v)/\Below base W w'/\CIn w' (.slice A rs.length c) rs.length 4 (out.flatMap rfL)
theorem Uv (fl:List HM)(rs:List RF)(h:rs.length<=1):Gt fl rs rs:=⟨rfl,fun W A c pb nn base _ _ hz ho=>(JJ A rs.length c h _ W).mono fun e w' ⟨he,hw⟩=>by
 subst hw
 exact⟨he,Below.refl _ _,CIn.of_own ho (FC rs)⟩⟩
structure CSt (pb : Nat) (w2 : World) (nn : Nat) (fl : List HM) (W : World) (v : Value) (rs : List RF) : Prop where
 chg:Chg (fun c=>c=pb) w2 W
 map:PMap W pb nn fl
 row:W.ownsRow w2.heap.size 57 4 v rs.length (rs.flatMap rfL)
section
variable {pb nn : Nat} {w2 W W' W8 : World} {fl : List HM} {v v' : Value} {rs : List RF}
theorem CSt.step (h:CSt pb w2 nn fl W v rs)(hp:pb<w2.heap.size)(hb:Below w2.heap.size W W'){rs':List RF}(hr:W'.ownsRow w2.heap.size 57 4 v' rs'.length (rs'.flatMap rfL)):CSt pb w2 nn fl W' v' rs':=
 ⟨⟨hb.os.trans h.chg.os,hb.tape.trans h.chg.tape,hb.output.trans h.chg.output,Nat.le_trans h.chg.size hb.size,fun b hlt hx=>(hb.block b hlt).trans (h.chg.block b hlt hx)⟩,h.map.keep (hb.block pb hp),hr⟩
theorem CSt.later (h:CSt pb w2 nn fl W v rs)(hp:pb<w2.heap.size)(hb:Below W.heap.size W W'):CSt pb w2 nn fl W' v rs:=h.step hp (hb.mono h.chg.size) (Fh h.row hb)
theorem CSt.append (h:CSt pb w2 nn fl W v rs)(hp:pb<w2.heap.size)(hb:Below W.heap.size W W8){r:RF}(ho:W'.ownsRow w2.heap.size 57 4 v' (rs.length+1) (rs.flatMap rfL++rfL r))(hg:W8.grownBy W' v.ownBlock):CSt pb w2 nn fl W' v' (rs++ [r]):=by
 have h8:=h.later hp hb
 refine h8.step hp ((Below.refl _ W8).grown hg h8.chg.size (own_ge h8.row)) ?_
 rw[List.length_append,List.flatMap_append]
 simpa using ho
theorem CSt.turned (h:CSt pb w2 nn fl W v rs)(hp:pb<w2.heap.size){nn':Nat}{fl':List HM}(hm:PMap W' pb nn' fl')(ht:W.mapTurned W' pb):CSt pb w2 nn' fl' W' v rs:=by
 obtain⟨A,c,rfl,-⟩:=DS h.row
 exact⟨h.chg.trans (Chg.turned ht rfl),hm,Dx h.row fun r hr=>by
  obtain⟨q1,q2⟩:=own_lt h.row r hr
  exact Ol ht q2 O0⟩
theorem CSt.below (h:CSt pb w2 nn fl W v rs){w:World}(hp:w.heap.size<=pb)(hb:Below w.heap.size w w2):Below w.heap.size w W:=hb.trans (h.chg.below hb.size fun b e=>by have e:b=pb:=e;omega)
theorem CSt.names (hc:Chg (fun c=>c=pb) w2 W){A:Option Addr}{c base:Nat}(hp:pb<base)(ho:w2.ownsRow base 9 1 (.slice A fl.length c) fl.length (fl.map fun h=> .string h.flow))(i:Nat)(hi:i<fl.length):∃b off,A=some ⟨b,off,none⟩/\W.cell? ⟨b,off+i,none⟩=some (.string fl[i].flow):=by
 have h1:=Dx ho fun r hr=>hc.block r (own_lt ho r hr).2 fun e=>by have e:r=pb:=e;have:=(own_lt ho r hr).1;omega
 obtain⟨-,-,A',c',e1,-,-,hrd⟩:=CIn.of_own h1 (by intro x hx;obtain⟨s,-,rfl⟩:=List.mem_map.1 hx;rfl)
 obtain⟨b,off,e2,-,hq⟩:=hrd O0
 injection e1 with e1 _ _
 exact⟨b,off,e1.trans e2,hq i _ (by simp[hi])⟩
end
def Ni (fl:Bool)(f:ByteArray)(t:TK):RF:=⟨f,t.id,if fl=true then t.n else t.n+1,t.at'⟩
def Gi (fl:Bool)(now:Nat)(f:ByteArray)(ts:List TK):List RF:=(ts.filter fun t=>decide (t.fl=fl/\t.at'<=now)).map (Ni fl f)
theorem PF (fl:Bool)(now:Nat)(f:ByteArray)(ts:List TK)(k:Nat)(hk:k<ts.length):Gi fl now f (ts.take (k+1))=Gi fl now f (ts.take k)++if ts[k].fl=fl/\ts[k].at'<=now then [Ni fl f ts[k]] else []:=by
 unfold Gi
 rw[List.take_succ_eq_append_getElem hk,List.filter_append,List.map_append]
 congr 1
 by_cases h:ts[k].fl=fl/\ts[k].at'<=now<;>simp[h]
def dueK (f:ByteArray)(t:Nat×Nat):RF:=⟨f,t.1,0,t.2⟩
def Gn (now:Nat)(f:ByteArray)(ts:List (Nat×Nat)):List RF:=(ts.filter fun t=>decide (t.2<=now)).map (dueK f)
theorem PR (now:Nat)(f:ByteArray)(ts:List (Nat×Nat))(k:Nat)(hk:k<ts.length):Gn now f (ts.take (k+1))=Gn now f (ts.take k)++if ts[k].2<=now then [dueK f ts[k]] else []:=by
 unfold Gn
 rw[List.take_succ_eq_append_getElem hk,List.filter_append,List.map_append]
 congr 1
 by_cases h:ts[k].2<=now<;>simp[h]
theorem Gc (fl:Bool)(now:Nat)(h:HM):(refsOf fl now h).length<=h.s.tasks.length:=by unfold refsOf;rw[List.length_map];exact List.length_filter_le _ _
theorem Ot (now:Nat)(h:HM):(DT now h).length<=h.s.timers.length:=by unfold DT;rw[List.length_map];exact List.length_filter_le _ _
theorem YB (fl:Bool)(now:Nat)(f:ByteArray)(ts:List TK):(Gi fl now f ts).length<=ts.length:=by unfold Gi;rw[List.length_map];exact List.length_filter_le _ _
theorem Ja (now:Nat)(f:ByteArray)(ts:List (Nat×Nat)):(Gn now f ts).length<=ts.length:=by unfold Gn;rw[List.length_map];exact List.length_filter_le _ _
theorem FD {F : HM -> List RF} {M : Nat} : ∀ {l : List HM}, (∀ h ∈ l, (F h).length <= M) -> (l.flatMap F).length <= l.length * M
 | [],_=>O3
 | a::t,h=>by
  have h1:=h a List.mem_cons_self
  have h2:=FD (l:=t) fun g hg=>h g (List.mem_cons_of_mem _ hg)
  rw[List.flatMap_cons,List.length_append,List.length_cons,Nat.succ_mul];omega
theorem KH {l:List HM}(ha:l.Pairwise fun a b=>a.flow≠b.flow)(j:Nat)(hj:j<l.length):Dr (l.take j) l[j].flow=none:=by
 cases h:Dr (l.take j) l[j].flow with
 | none=>rfl
 | some i=>
  obtain⟨hi,h1,-⟩:=DL h
  rw[List.length_take] at hi
  rw[List.getElem_take] at h1
  exact absurd h1 (List.pairwise_iff_getElem.1 ha i j O0 hj O0)
def KIn (w:World)(A:Option Addr)(ts:List TK):Prop:=0<ts.length->∃b off,A=some ⟨b,off,none⟩/\b<w.heap.size/\∀i (h:i<ts.length),∃k n f s A' m c,TOk ts[i]/\∀q,q<10->w.cell? ⟨b,off+i*10+q,none⟩=(DA ts[i] k n f s A' m c)[q]?
def DIn (w:World)(A:Option Addr)(ts:List (Nat×Nat)):Prop:=0<ts.length->∃b,A=some ⟨b,0,none⟩/\b<w.heap.size/\∀i (h:i<ts.length),w.cell? ⟨b,i*2,none⟩=some (.int .u64 (ts[i].1:Nat))/\w.cell? ⟨b,i*2+1,none⟩=some (.int .u64 (ts[i].2:Nat))
theorem SI {p:Addr}(h:w'.heap[p.block]?=w.heap[p.block]?):w'.cell? p=w.cell? p:=by unfold World.cell?;rw[h]
theorem TkIn.kin {A:Option Addr}{c:Nat}{ts:List TK}(h:TkIn w A c ts):KIn w A ts:=fun hp=>by
 obtain⟨b,off,h1,h2,h3⟩:=h.2.2 hp
 exact⟨b,off,h1,h2,fun i hi=>by
  obtain⟨lo,hi2,k,n,f,s,A',m,c',q1,-,-,q2⟩:=h3 i hi
  exact⟨k,n,f,s,A',m,c',q1,q2⟩⟩
theorem KIn.keep {A:Option Addr}{ts:List TK}(h:KIn w A ts)(hz:w.heap.size<=w'.heap.size)(hk:∀b,rowOf A=some b->b<w.heap.size->w'.heap[b]?=w.heap[b]?):KIn w' A ts:=fun hp=>by
 obtain⟨b,off,rfl,h2,h3⟩:=h hp
 exact ⟨b, off, rfl, O0, fun i hi => by
  obtain⟨k,n,f,s,A',m,c',q1,q2⟩:=h3 i hi
  exact⟨k,n,f,s,A',m,c',q1,fun q hq=>(SI (p:=⟨b,_,none⟩) (hk b rfl h2)).trans (q2 q hq)⟩⟩
theorem DIn.keep {A:Option Addr}{ts:List (Nat×Nat)}(h:DIn w A ts)(hz:w.heap.size<=w'.heap.size)(hk:∀b,rowOf A=some b->b<w.heap.size->w'.heap[b]?=w.heap[b]?):DIn w' A ts:=fun hp=>by
 obtain⟨b,rfl,h2,h3⟩:=h hp
 exact⟨b,rfl,O0,fun i hi=>⟨(SI (p:=⟨b,_,none⟩) (hk b rfl h2)).trans (h3 i hi).1,(SI (p:=⟨b,_,none⟩) (hk b rfl h2)).trans (h3 i hi).2⟩⟩
def Off (w3:World)(A:Option Addr)(W:World)(v:Value):Prop:=∀b,rowOf A=some b->b<w3.heap.size->W.heap[b]?=w3.heap[b]?/\v.ownBlock≠some b
theorem Off.later {w3 W W':World}{A:Option Addr}{v:Value}(h:Off w3 A W v)(hz:w3.heap.size<=W.heap.size)(hb:Below W.heap.size W W'):Off w3 A W' v:=fun b hA hlt=>⟨(hb.block b O0).trans (h b hA hlt).1,(h b hA hlt).2⟩
theorem Off.append {w3 W W' W8:World}{A:Option Addr}{v v':Value}(h:Off w3 A W v)(hz:w3.heap.size<=W.heap.size)(hb:Below W.heap.size W W8)(hg:W8.grownBy W' v.ownBlock)(hv:v'.ownBlock=v.ownBlock\/v'.ownBlock=some W8.heap.size):Off w3 A W' v':=fun b hA hlt=>by
 have h8:=h.later hz hb b hA hlt
 have:=hb.size
 refine⟨(hg.block b O0 fun e=>h8.2 e.symm).trans h8.1,fun e=> ?_⟩
 rcases hv with q|q
 ·exact h8.2 (q ▸ e)
 ·rw[q] at e;cases e;omega
theorem M47 (h:p:=by
 have hj':m=j:=O0
 subst hj'
 rw[show x.flows.take m=x.flows by rw[HM.out];exact List.take_length] at HST
 obtain⟨A4,c4,rfl,hfr⟩:=DS HST.out.row
 have HFR:Hid (∀r,rowOf A4=some r->w.heap.size<=r):=U fun r hr=>Nat.le_trans HB2.out.size (hfr r hr)
 clear hfr
 have HSC:=U (HS.out.2 wr A4 c4 w.heap.size nn w2.heap.size HST.out.map HPB.out HST.out.chg.size HST.out.row)
 have HBW:Hid (Below w.heap.size w wr):=U (HST.out.below (Nat.le_refl _) HB2.out)
 rw[<-HS.out.1] at HSC ⊢
 go_wp2_with fail
 refine HSC.out.mono ?_
 rintro e w6 ⟨⟨v6,rfl⟩,hb6,hin6⟩
 have HB6:Hid (Below w.heap.size w w6):=U (HBW.out.trans (hb6.mono (Nat.le_of_lt HPB.out)))
 have HIN:=U hin6
 clear hb6 hin6 HSC
 go_wp2_with fail
 go_ret
 exact⟨A4,c4,rfl,HB6.out,HIN.out,HFR.out⟩):p:=h
theorem M83 (h:p:=by
 go_wp2_with fail
 go_roundw
 case rel=>exact⟨k+1,O0,by go_num,HZ.out,HO.out,HR.out⟩
 case measure=>simp[intOf];omega):p:=h
theorem M107 (h:p:=by
 have hfx:=UX HG.out.apart j hjl
 rcases hcase with ⟨q,-⟩|⟨i',h,p,Y,q1,q2,q3,q4,-⟩
 ·rw[HFF.out,hfx] at q;cases q
 ·rw [HFF.out, hfx] at q1
  cases q1
  rw[List.getElem?_eq_getElem hjl] at q2
  cases q2
  exact⟨p,Y,q3,q4⟩):p:=h
theorem M115 (h:p:=by
 have HO:=U (HOFF.out.append HZ3.out HB8.out hgr9 hat9)
 have HZ:Hid (w3.heap.size<=w9.heap.size):=U (by have:=HZ3.out;have:=HB8.out.size;have:=hgr9.size;omega)
 clear hown9 hgr9 hat9 z0 z1 z2 z3
 exact M83):p:=h
theorem M137 (h:p:=by
 rw[List.length_append]
 have h2:(x.flows.take j).length*(T+1)+(T+1)<=x.flows.length*(T+1):=by rw[<-Nat.succ_mul];exact Nat.mul_le_mul_right _ (by simp;omega)
 omega):p:=h
theorem M159 (h:p:=by
 have HO:=U (HOFF.out.later HZ3.out HB36.out)
 have HZ:Hid (w3.heap.size<=W6.heap.size):=U (Nat.le_trans HZ3.out HB36.out.size)
 exact M83):p:=h
theorem M169 (h:p:=by
 go_wp2_with fail
 go_roundw
 case rel=>exact⟨j+1,nn+1,O0,O0,by go_num,HR.out⟩
 case measure=>simp[intOf];omega):p:=h
theorem M455 (h:p:=by
 have e0:=hcell 0 O0;have e1:=hcell 1 O0;have e2:=hcell 2 O0;have e3:=hcell 3 O0;have e4:=hcell 4 O0;have e5:=hcell 5 O0;have e6:=hcell 6 O0;have e7:=hcell 7 O0;have e8:=hcell 8 O0;have e9:=hcell 9 O0
 simp only[DA,List.getElem?_toArray,List.getElem?_cons_zero,List.getElem?_cons_succ,Nat.add_zero] at e0 e1 e2 e3 e4 e5 e6 e7 e8 e9
 exact Y455):p:=h
theorem M491 (h:p:=by
 rw[<-hrs] at HS8 HRS HST2
 have HSR:=U hrs
 have hrl:=HRS.out
 have HO8:=U HS8.out.row
 have HZ8:Hid (w2.heap.size<=W8.heap.size):=U HS8.out.chg.size
 clear hx7 hb7 hb8 hrs
 replace hW7:=U hW7;replace hW8:=U hW8
 go_upto_region 13 with fail
 rw[<-hW7.out]
 clear y0 yf
 go_wp2_with (at_builtin;rw[<-hW8.out];refine Dq _ rfl _ _ 48 57 rfl i0 _ 4 40 Tryz.underlying48 HSZ.out hi0 hz0 hz1 hz2 rfl O1 w2.heap.size _ _ rs.length 1 (rs.flatMap rfL) (rfL ⟨ff,tid,n1,ta⟩) rfl rfl HO8.out HI8.out (by simp only[maxLen];omega) O0 HZ8.out ?_;intro v9 w9 hown9 hgr9 hat9)
 exact Y491):p:=h
theorem Q492.Y491 (h:p:=by
 have HR:Hid (CSt w.heap.size w2 (nn+1) (x.flows.take (j+1)) w9 v9 ((x.flows.take j).flatMap (refsOf fl now)++Gi fl now ff (ts.take (k+1)))):=U (by
  rw[HSN.out,if_pos (of_decide_eq_true HP.out.symm), <-List.append_assoc, <-HSR.out,show Ni fl ff ⟨tid,tnm,tv,tn,tf,ta⟩=⟨ff,tid,n1,ta⟩ from by have:=(of_decide_eq_true HP.out.symm).1;unfold Ni;rw[HN1.out, <-this]]
  exact HST2.out.append HPB.out HB8.out hown9 hgr9)
 exact M115):p:=h
theorem Q346.Y345 (h:p:=by
 obtain⟨rs,hrs⟩:=Rm ((x.flows.take j).flatMap (refsOf fl now)++Gi fl now ff (ts.take k))
 open Q492 in exact M491):p:=h
theorem M345 (h:p:=by
 have y0:W6.cell? ⟨gB,0,none⟩=some (.string ⟨#[]⟩):=by simp[World.cell?,HX6.out]
 have yf:W6.frozen? ⟨gB,0,none⟩=false:=by simp[World.frozen?,HX6.out]
 obtain⟨W7,hW7⟩:=Rm (W6.setCell ⟨gB,0,none⟩ (.string ff))
 have hx7:W7.heap[gB]?=some (.cells #[.string ff,.int .u64 (tid:Nat),.int .i64 n1,.int .u64 (ta:Nat)] 57 (0,0)):=by rw[hW7];simp[World.setCell,Array.getElem?_modify,HX6.out]
 have hb7:Below wr.heap.size wr W7:=by rw[hW7];exact HB36.out.setCell (p:=⟨gB,0,none⟩) (Nat.le_of_lt HG6.out) _
 have z0:W7.cell? ⟨gB,0,none⟩=some (.string ff):=by simp[World.cell?,hx7]
 have z1:W7.cell? ⟨gB,1,none⟩=some (.int .u64 (tid:Nat)):=by simp[World.cell?,hx7]
 have z2:W7.cell? ⟨gB,2,none⟩=some (.int .i64 n1):=by simp[World.cell?,hx7]
 have z3:W7.cell? ⟨gB,3,none⟩=some (.int .u64 (ta:Nat)):=by simp[World.cell?,hx7]
 obtain⟨W8,hW8⟩:=Rm (W7.alloc (.cells #[.string ff,.int .u64 (tid:Nat),.int .i64 n1,.int .u64 (ta:Nat)] 57))
 have hb8:Below wr.heap.size wr W8:=by rw[hW8];exact hb7.alloc hb7.size _
 have HB8:=U hb8
 have HS8:=U (HST2.out.later HPB.out hb8)
 have HI8:Hid (CIn W8 (.slice (some ⟨W7.heap.size,0,none⟩) 1 1) 1 4 (rfL ⟨ff,tid,n1,ta⟩)):=U (by rw[hW8];exact CIn.new W7 57 #[.string ff,.int .u64 (tid:Nat),.int .i64 n1,.int .u64 (ta:Nat)] rfl (Xq ⟨ff,tid,n1,ta⟩))
 exact Y345):p:=h
theorem M712 (h:p:=by
 have HQ:=U hat.lt
 generalize p.hb=qb at *
 rw[<-hL] at HK
 clear hat hcase hts hL n1 hrun HF
 go_wp2_with fail
 refine HK.out.mono ?_
 rintro e w3 ⟨A2,c2,rfl,hb3,hin,hnew⟩
 have hcp:c2<=maxLen:=hin.2.1
 have hcl:L<=c2:=by have:=hin.1;have:=HL.out;omega
 exact Y712):p:=h
theorem M690 (h:p:=by
 have HB3:=U hb3
 have HS3:=U (HS1.out.later HPB.out hb3)
 have HOF:Hid (Off w3 A2 w3 u7):=U fun b hA hlt=>⟨rfl,fun e=>by
  have h1:=hnew b hA
  have h2:=HS1.out.row
  obtain⟨A4,c4,rfl,-⟩:=DS h2
  have:=(own_lt h2 b (by cases A4 with | none=>cases e|some a=>exact e)).2
  omega⟩
 exact Y690):p:=h
theorem M461 (h:p:=by
 rw[<-hn1]
 have HN1:=U hn1
 clear hn1
 obtain⟨W6,hW6⟩:=Rm (w5.alloc (.cells #[.string ⟨#[]⟩,.int .u64 (tid:Nat),.int .i64 n1,.int .u64 (ta:Nat)] 57))
 have hb36:Below wr.heap.size wr W6:=by rw[hW6];exact(HB34.out.trans (hb5.mono HB34.out.size)).alloc (by have:=HB34.out.size;have:=hb5.size;omega) _
 have hx6:W6.heap[w5.heap.size]?=some (.cells #[.string ⟨#[]⟩,.int .u64 (tid:Nat),.int .i64 n1,.int .u64 (ta:Nat)] 57 (0,0)):=by rw[hW6];exact heap_alloc_new _ _
 have HG6:Hid (wr.heap.size<w5.heap.size):=U (by have:=hb5.size;have:=HZ4.out;omega)
 obtain⟨gB,hg6⟩:∃g,g=w5.heap.size:=⟨_,rfl⟩
 rw[<-hg6] at hx6 HG6
 have HB36:=U hb36;have HX6:=U hx6
 exact Y461):p:=h
theorem Q463.Y461 (h:p:=by
 clear hb5 hb36 hp HC hx6 g0 g1 g2 g3 g4 g5 g6 g7 g8 g9
 replace hW6:=U hW6
 go_upto_region 11 with fail
 rw[<-hW6.out, <-hg6]
 clear hW6 hg6
 cases p with
 | false=>
  have HR:Hid (CSt w.heap.size w2 (nn+1) (x.flows.take (j+1)) W6 u7 ((x.flows.take j).flatMap (refsOf fl now)++Gi fl now ff (ts.take (k+1)))):=U (by
   rw[HSN.out,if_neg (of_decide_eq_false HP.out.symm),List.append_nil]
   exact HST2.out.later HPB.out HB36.out)
  exact M159
 | true=>
  open Q346 in exact M345):p:=h
theorem Q456.Y455 (h:p:=by
 obtain⟨W4,hW4⟩:=Rm (wr.alloc (.cells #[.int .u64 (tid:Nat),.string tnm,.int .i64 kk,.int .i64 n,.float .f64 f,.string s,.slice A' m' c',.int .i64 tn,.bool tf,.int .u64 (ta:Nat)] 36))
 have hb4:Below wr.heap.size wr W4:=by rw[hW4];exact Rl
 have HZ4:Hid (W4.heap.size=wr.heap.size+1):=U (by rw[hW4];simp)
 have hx4:W4.heap[wr.heap.size]?=some (.cells (DA ⟨tid,tnm,tv,tn,tf,ta⟩ kk n f s A' m' c') 36 (0,0)):=by rw[hW4];exact heap_alloc_new _ _
 obtain⟨g0,g1,g2,g3,g4,g5,g6,g7,g8,g9,-⟩:=Hi.Fc hx4
 have hn0:=hok.n0;have hn1:=hok.n1
 clear hcell hok hx4
 have HB4:Hid (Below w.heap.size w W4):=U (HBW.out.trans (hb4.mono HBW.out.size))
 have HB34:=U hb4
 have HC:=U (LM tid ta tnm kk n f s A' m' c' tn tf hn0 hn1 fb nb fl now W4 ((HB4.out.cell (p:=⟨fb,0,none⟩) hfb).trans HHF.out) ((HB4.out.cell (p:=⟨nb,0,none⟩) hnb).trans HHN.out) (Nat.lt_of_lt_of_le hfb HB4.out.size) (Nat.lt_of_lt_of_le hnb HB4.out.size))
 clear hn0 hn1
 clear hb4
 replace hW4:=U hW4
 go_upto_region 10 with fail
 rw[<-hW4.out]
 clear e0 e1 e2 e3 e4 e5 e6 e7 e8 e9
 go_wp2_with fail
 refine HC.out.mono ?_
 rintro r w5 ⟨rfl,hb5⟩
 obtain⟨p,hp⟩:=Rm (decide (tf=fl/\ta<=now))
 rw[<-hp]
 have HP:=U hp
 obtain⟨n1,hn1⟩:=Rm ((if tf=true then tn else tn+1))
 open Q463 in exact M461):p:=h
theorem Q691.Y690 (h:p:=by
 have HR0:Hid (CSt w.heap.size w2 (nn+1) (x.flows.take (j+1)) w3 u7 ((x.flows.take j).flatMap (refsOf fl now)++Gi fl now ff (ts.take 0))):=U (by rw[List.take_zero];unfold Gi;rw[List.filter_nil,List.map_nil,List.append_nil];exact HS3.out)
 have HSZ3:Hid (w2.heap.size<=w3.heap.size):=U HS3.out.chg.size
 simp only[maxLen] at hcp
 clear hb3 hin hnew
 go_wp2_with fail
 go_loopw [7,33] (fun u2 i wr2=>∃k:Nat,k<=L/\i= .int .i64 k/\w3.heap.size<=wr2.heap.size/\Off w3 A2 wr2 u2/\CSt w.heap.size w2 (nn+1) (x.flows.take (j+1)) wr2 u2 ((x.flows.take j).flatMap (refsOf fl now)++Gi fl now ff (ts.take k))) (fun _ i _=>L-(intOf i).toNat)
 case atStart=>exact⟨0,O0,rfl,Nat.le_refl _,HOF.out,HR0.out⟩
 case round=>
  obtain⟨k,hk,rfl,hz3,hoff,hst⟩:=hrel
  have HST2:=U hst;have HOFF:=U hoff;have HZ3:=U hz3
  clear hst hoff hz3
  by_cases hlk:k<L
  ·have hkl : k < ts.length := by have := HL.out; omega
   have HBW:Hid (Below w.heap.size w wr):=U (HST2.out.below (Nat.le_refl _) HB2.out)
   have HRS:Hid (((x.flows.take j).flatMap (refsOf fl now)++Gi fl now ff (ts.take k)).length<=1000000000000):=U (HRL.out j hjl _ (Nat.le_trans (YB fl now _ _) (by have:=HLT.out;simp;omega)))
   have HSN:Hid (Gi fl now ff (ts.take (k+1))=Gi fl now ff (ts.take k)++if ts[k].fl=fl/\ts[k].at'<=now then [Ni fl ff ts[k]] else []):=U (PF fl now ff ts k hkl)
   obtain⟨bb,off2,rfl,hbb,hcells⟩:=(KIn.keep HKI.out HZ3.out fun b hA hlt=>(HOFF.out b hA hlt).1) O0
   obtain⟨kk,n,f,s,A',m',c',hok,hcell⟩:=hcells k hkl
   obtain⟨t,ht⟩:=Rm (ts[k])
   rw[<-ht] at hok hcell HSN
   have HT:=U ht
   clear hcells ht
   obtain⟨tid,tnm,tv,tn,tf,ta⟩:=t
   open Q456 in exact M455
  ·have hk' : L = k := O0
   subst hk'
   have HR:Hid (CSt w.heap.size w2 (nn+1) (x.flows.take (j+1)) wr u7 ((x.flows.take (j+1)).flatMap (refsOf fl now))):=U (by
    have h:=HST2.out
    rw[show ts.take L=ts by rw[HL.out];exact List.take_length,HTS.out,HFF.out] at h
    rw[show (x.flows.take (j+1)).flatMap (refsOf fl now)=(x.flows.take j).flatMap (refsOf fl now)++Gi fl now x.flows[j].flow x.flows[j].s.tasks by rw[List.take_succ_eq_append_getElem hjl,List.flatMap_append,List.flatMap_singleton];rfl]
    exact h)
   exact M169):p:=h
theorem Q713.Y712 (h:p:=by
 have HKI:Hid (KIn w3 A2 ts):=U (TkIn.kin hin.read)
 open Q691 in exact M690):p:=h
theorem Q387.Y386 (h:p:=by
 have HK:=U (Sv hat (by have:=HGJ.out.tot;omega) HGJ.out.slim)
 obtain⟨ts,hts⟩:=Rm (x.flows[j].s.tasks)
 have HTS:=U hts
 rw[<-hts] at HK
 obtain⟨L,hL⟩:=Rm (ts.length)
 have HL:=U hL
 have HL2:Hid (L<=1200000000000):=U (by rw[hL,hts];have:=FZ HGJ.out.fine;have:=HGJ.out.tot;omega)
 have HLT:Hid (ts.length<=T+1):=U (by rw[hts];have:=FZ HGJ.out.fine;have:=HGJ.out.tot;omega)
 open Q713 in exact M712):p:=h
theorem M386 (h:p:=by
 have hjl:j<x.flows.length:=by have:=HM.out;omega
 obtain⟨rN,off,rfl,n1⟩:=HNM.out wr HST.out.chg j hjl
 have hss:=HFL.out _ (List.getElem_mem hjl)
 obtain⟨W1,hrun,hmap,hturn⟩:=HST.out.map.put (by simp only[maxLen];omega) x.flows[j] hss (KH HG.out.apart j hjl)
 have hlen:(x.flows.take j).length=j:=by simp;omega
 rw[hlen] at hrun
 rw[<-List.take_succ_eq_append_getElem hjl] at hmap
 have HS1:=U (HST.out.turned HPB.out hmap hturn)
 have HH1:=U (HX.out.later (HS1.out.below (Nat.le_refl _) HB2.out))
 have HF:=U (Sr HH1.out x.flows[j].flow hss)
 have hgj:=HG.out.good _ (List.getElem_mem hjl)
 have HGJ:=U hgj
 obtain⟨ff,hff⟩:=Rm (x.flows[j].flow)
 have HFF:=U hff
 rw[<-hff] at hrun HF n1
 clear hmap hturn hss hff hlen hgj
 go_wp2_with fail
 refine HF.out.mono ?_
 rintro e w' ⟨hw',hcase⟩
 rw[hw']
 clear hw' w'
 obtain⟨p,Y,rfl,hat⟩:∃(p:HB) (Y:Nat->Prop),e= .returned (.pointer (some ⟨p.hb,0,none⟩))/\p.at_ Y W1 x.flows[j]:=by
  exact M107
 exact Y386):p:=h
theorem M488 (h:p:=by
 go_upto_region 3 with fail
 rw[<-hW0.out]
 go_wp2_with fail
 refine HN.out.mono ?_
 rintro e w2 ⟨v,rfl,hown,hb2⟩
 obtain⟨A,c,rfl,-⟩:=DS hown
 have HB2:Hid (Below w.heap.size w w2):=U (HB0.out.trans (hb2.mono HB0.out.size))
 have HPB:Hid (w.heap.size<w2.heap.size):=U (by have:=hb2.size;have:=HZ0.out;omega)
 have HNM:Hid (∀W,Chg (fun c=>c=w.heap.size) w2 W->∀i (hi:i<x.flows.length),∃b off,A=some ⟨b,off,none⟩/\W.cell? ⟨b,off+i,none⟩=some (.string x.flows[i].flow)):=U fun W hW i hi=>CSt.names hW (base:=W0.heap.size) (by have:=HZ0.out;omega) hown i hi
 exact Y488):p:=h
theorem Q489.Y488 (h:p:=by
 have HC0:Hid (CSt w.heap.size w2 0 (x.flows.take 0) w2 (.slice none 0 0) ((x.flows.take 0).flatMap (refsOf fl now))):=U ⟨Chg.refl _ _,HP0.out.keep (hb2.block _ (by have:=HZ0.out;omega)),by simp only[List.take_zero,List.flatMap_nil];exact⟨rfl,.inl ⟨rfl,rfl⟩⟩⟩
 rw[<-HM.out]
 clear hown hb2
 go_wp2_with fail
 go_loopw [7,19] (fun u i wr=>∃(j nn:Nat),j<=m/\nn<=j/\i= .int .i64 j/\CSt w.heap.size w2 nn (x.flows.take j) wr u ((x.flows.take j).flatMap (refsOf fl now))) (fun _ i _=>m-(intOf i).toNat)
 case atStart=>exact⟨0,0,O0,O0,rfl,HC0.out⟩
 case round=>
  obtain⟨j,nn,hj,hnn,rfl,hst⟩:=hrel
  have HST:=U hst
  clear hst
  by_cases hlt:j<m
  ·open Q387 in exact M386
  ·exact M47):p:=h
theorem Q453.Y452 (h:p:=by
 have HRL:Hid (∀j (hj:j<x.flows.length) ys,ys.length<=T+1->((x.flows.take j).flatMap (refsOf fl now)++ys).length<=1000000000000):=U fun j hj ys hy=>by
  have h1:=FD (l:=x.flows.take j) (F:=(refsOf fl now)) (M:=T+1) fun h hh=>by
   have g:=hg.good h (List.mem_of_mem_take hh)
   refine Nat.le_trans (Gc fl now h) (Nat.le_trans (FZ g.fine) ?_)
   have:=g.tot;omega
  exact M137
 have HX:=U H;have HG:=U hg;have HFL:=U hfl;have HS:=U hS
 have HB0:=U hb0;have HZ0:=U hz;have HP0:=U hp0;have HHN:=U hn
 have HHF:=U hf
 clear H hg hfl hS hb0 hz hp0 hm hn hN hTN hf
 replace hW0:=U hW0
 go_enter Tryz.func57,Tryz.ntmps57
 open Q489 in exact M488):p:=h
theorem M452 (h:p:=by
 have hmm:= @run_makeMap Tryz.prog
 obtain⟨i0,hi0,hz0,hz1,hz2⟩:=info_parts Tryz.infoRef
 have HSZ:=U (Od hi0 hz1)
 obtain⟨W0,hW0⟩:=Rm (w.alloc (.map #[] 0))
 have hb0:Below w.heap.size w W0:=by rw[hW0];exact Rl
 have hz:W0.heap.size=w.heap.size+1:=by rw[hW0];simp
 have hp0:PMap W0 w.heap.size 0 []:=by rw[hW0];exact PMap.made w
 have HN:=U (show Calls Tryz.prog 59 #[.pointer (some ⟨xb,0,none⟩)] W0 fun e w'=>∃v,e= .returned v/\w'.ownsRow W0.heap.size 9 1 v x.flows.length (x.flows.map fun h=> .string h.flow)/\Below W0.heap.size W0 w' from by
  obtain⟨mb,nm,N',cN,R,cR,ps,-,H⟩:=H.later hb0
  exact YM H hg.apart hfl hN)
 obtain⟨m,hm⟩:=Rm (x.flows.length)
 have HM:=U hm
 have hml:m<=1000000:=by rw[hm];exact hN
 exact Y452):p:=h
theorem XD (H:XAt E w xb Z x){T N:Nat}(hg:XGood x T N)(hT:T<=1100000000000)(hN:x.flows.length<=1000000)(hTN:x.flows.length*(T+1)<=1000000000000)(hfl:∀h∈x.flows,h.flow.size<=maxLen)(fl:Bool)(now nb:Nat)(fb:Nat)(hf:w.cell? ⟨fb,0,none⟩=some (.bool fl))(hfb:fb<w.heap.size)(hn:w.cell? ⟨nb,0,none⟩=some (.int .u64 (now:Nat)))(hnb:nb<w.heap.size)(out:List RF)(hS:Gt x.flows (x.flows.flatMap (refsOf fl now)) out) :
  Calls Tryz.prog 57 #[.pointer (some ⟨xb,0,none⟩),.func (.func 30) #[] #[],.func (.func 58) #[] #[.pointer (some ⟨fb,0,none⟩),.pointer (some ⟨nb,0,none⟩)]] w fun r w'=>∃A c,r= .returned (.slice A out.length c)/\Below w.heap.size w w'/\CIn w' (.slice A out.length c) out.length 4 (out.flatMap rfL)/\∀r,rowOf A=some r->w.heap.size<=r:=by
 open Q453 in exact M452
attribute [local go_sem] Oper.semAt_some
variable {w w' : World}
theorem NB (n:Nat)(hn:n<=5000000000000)(w:World) :
  Calls Tryz.prog 74 #[.slice none 0 0,.int .i64 n] w fun e w'=>∃v,e= .returned v/\w'.ownsRow w.heap.size 57 4 v 0 []/\Below w.heap.size w w':=by
 obtain⟨i0,hi,hz0,hz1,hz2⟩:=info_parts Tryz.infoRef
 rcases Nat.eq_zero_or_pos n with h0|h0
 ·subst h0
  go_enter Tryz.func74,Tryz.ntmps74
  go_wp2_with fail
  go_ret
  exact⟨_,rfl,⟨rfl,.inl ⟨rfl,rfl⟩⟩,Below.refl _ _⟩
 ·have hr := Lib.run_append_nil_zeros (P := Tryz.prog) w 48 3 48 57 i0 (.agg #[.string ⟨#[]⟩, .int .u64 0, .int .i64 0, .int .u64 0]) .i64 .i64 Tryz.underlying48 Tryz.underlying3 hi hz0 n h0 O0 O0 (by rw [hz2]; omega)
  have HR:=U hr
  obtain⟨gc,hgc⟩:=Rm (grownCap w n 0 57)
  have hge:n<=gc:=by rw[hgc];exact grownCap_ge ..
  have hle:gc<=maxLen:=by rw[hgc];exact grownCap_le_maxLen _ _ _ _ (by simp only[maxLen];omega)
  rw[<-hgc] at HR
  clear hr hgc
  have hle2:=hle
  simp only[maxLen] at hle2
  go_enter Tryz.func74,Tryz.ntmps74
  go_wp2_with (at_builtin;refine Lib.wpList_append_run _ rfl _ _ _ _ rfl _ _ rfl rfl _ _ HR.out ?_)
  go_ret
  refine⟨_,rfl,⟨rfl,.inr ⟨w.heap.size,gc,_,rfl,Nat.le_refl _,heap_alloc_new w.drew _,Nat.zero_le _,hle,?_,rfl⟩⟩,(Below.refl _ _).drew.alloc (Nat.le_refl _) _⟩
  simp only[Array.size_append,size_zeroCells]
  show n*4+(gc-n)*4=gc*4
  omega
def QIn (w:World)(ab:Nat)(ls:List (List RF)):Prop:=ab<w.heap.size/\∀i (h:i<ls.length),∃A c,w.cell? ⟨ab,0+i,none⟩=some (.slice A ls[i].length c)/\CIn w (.slice A ls[i].length c) ls[i].length 4 (ls[i].flatMap rfL)
theorem QIn.later {ab:Nat}{ls:List (List RF)}(h:QIn w ab ls)(hb:Below w.heap.size w w'):QIn w' ab ls:=⟨Nat.lt_of_lt_of_le h.1 hb.size,fun i hi=>by
 obtain⟨A,c,h1,h2⟩:=h.2 i hi
 exact⟨A,c,(hb.cell (p:=⟨ab,_,none⟩) h.1).trans h1,h2.later hb⟩⟩
def OB (ls:List (List RF))(j:Nat):Nat:=(ls.take j).flatten.length
theorem SD (ls:List (List RF))(j:Nat)(h:j<ls.length):OB ls (j+1)=OB ls j+ls[j].length:=by
 unfold OB;rw[List.take_succ_eq_append_getElem h,List.flatten_append];simp
theorem qlen_le (ls:List (List RF))(j:Nat):OB ls j<=ls.flatten.length:=by
 have:(ls.take j++ls.drop j).flatten.length=ls.flatten.length:=by rw[List.take_append_drop]
 rw[List.flatten_append,List.length_append] at this
 unfold OB
 omega
theorem YC (ls:List (List RF))(j:Nat)(h:j<ls.length):(ls.take (j+1)).flatten.flatMap rfL=(ls.take j).flatten.flatMap rfL++ls[j].flatMap rfL:=by
 rw[List.take_succ_eq_append_getElem h,List.flatten_append];simp
theorem Jf (ls:List (List RF))(m:Nat)(hm:m=ls.length)(ab:Nat)(cap:Nat)(w:World)(h:QIn w ab ls)(hn:ls.flatten.length<=3000000000000)(hl0:m<=10)(hc1:m<=cap)(hc2:cap<=10) :
  Calls Tryz.prog 42 #[.slice (some ⟨ab,0,none⟩) m cap] w fun e w'=>∃v,e= .returned v/\w'.ownsRow w.heap.size 57 4 v ls.flatten.length (ls.flatten.flatMap rfL)/\Below w.heap.size w w':=by
 obtain⟨i0,hi0,hz0,hz1,hz2⟩:=info_parts Tryz.infoRef
 have HSZ:=U (Od hi0 hz1)
 have HK:=U h;have HM:=U hm;clear h hm
 have HLE:=U (fun j=>Nat.le_trans (qlen_le ls j) hn)
 clear hn
 go_enter Tryz.func42,Tryz.ntmps42
 go_wp2_with fail
 go_loop [3,11] (fun n i=>∃(j:Nat),j<=m/\i= .int .i64 j/\n= .int .i64 (OB ls j:Nat)) (fun _ i=>m-(intOf i).toNat)
 case atStart=>exact⟨0,O0,rfl,rfl⟩
 case round=>
  obtain⟨j,hj,rfl,rfl⟩:=hrel
  by_cases hlt:j<m
  ·have hlt' : j < ls.length := by have := HM.out; omega
   obtain⟨hbl,h3⟩:=HK.out
   obtain⟨A',cap',hv,-⟩:=h3 j hlt'
   have HF:=U (SD ls j hlt')
   have hm2:OB ls j+ls[j].length<=3000000000000:=by rw[<-HF.out];exact HLE.out _
   generalize OB ls j=a at *
   generalize ls[j].length=c at *
   simp only[Nat.zero_add] at hv
   clear h3
   go_wp2_with fail
   exact⟨⟨j+1,O0,by go_num,by rw[HF.out];go_num⟩,by simp[intOf];omega⟩
  ·have hj' : j = m := O0
   subst hj'
   have hp:OB ls j<=3000000000000:=HLE.out _
   generalize OB ls j=N at *
   have HG:=U (NB N O0 w)
   go_wp2_with fail
   refine HG.out.mono ?_
   rintro e w1 ⟨v0,rfl,hown0,hb0⟩
   have HO:Hid (w1.ownsRow w.heap.size 57 4 v0 (OB ls 0) ((ls.take 0).flatten.flatMap rfL)):=U (by simpa[OB] using hown0)
   have HB0:=U hb0
   clear hown0 hb0 HG
   go_wp2_with fail
   go_loopw [6,27] (fun o i wr=>∃(k:Nat),k<=j/\i= .int .i64 k/\wr.ownsRow w.heap.size 57 4 o (OB ls k) ((ls.take k).flatten.flatMap rfL)/\Below w.heap.size w wr) (fun _ i _=>j-(intOf i).toNat)
   case atStart=>exact⟨0,O0,rfl,HO.out,HB0.out⟩
   case round=>
    obtain⟨k,hk,rfl,hown,hb⟩:=hrel
    by_cases hlt:k<j
    ·have hlt' : k < ls.length := by have := HM.out; omega
     obtain⟨hbl,h3⟩:=HK.out.later hb
     obtain⟨A',cap',hv,hin⟩:=h3 k hlt'
     simp only[Nat.zero_add] at hv
     have hm2:OB ls k+ls[k].length<=3000000000000:=by rw[<-SD ls k hlt'];exact HLE.out _
     have hbs:=hb.size
     have HB:=U hb
     have HOW:=U hown;have HIN:=U hin
     obtain⟨c,hc⟩:=Rm (ls[k].length)
     obtain⟨a,ha⟩:=Rm (OB ls k)
     have HSN:Hid (OB ls (k+1)=a+c/\(ls.take (k+1)).flatten.flatMap rfL=(ls.take k).flatten.flatMap rfL++ls[k].flatMap rfL):=U ⟨by rw[ha,hc];exact SD ls k hlt',YC ls k hlt'⟩
     rw[<-hc] at hv hm2 HIN
     rw[<-ha] at hm2 HOW
     clear h3 hb hown hin ha hc
     go_wp2_with (at_builtin;refine Dq _ rfl _ _ 48 57 rfl i0 _ 4 40 Tryz.underlying48 HSZ.out hi0 hz0 hz1 hz2 rfl O1 w.heap.size _ _ a c ((ls.take k).flatten.flatMap rfL) (ls[k].flatMap rfL) rfl rfl HOW.out HIN.out (by simp only[maxLen];omega) O0 hbs ?_;intro v9 w9 hown9 hgr9 hat9)
     have HO9:Hid (w9.ownsRow w.heap.size 57 4 v9 (OB ls (k+1)) ((ls.take (k+1)).flatten.flatMap rfL)):=U (by rw[HSN.out.1,HSN.out.2];exact hown9)
     have HB9:Hid (Below w.heap.size w w9):=U (HB.out.grown hgr9 HB.out.size (own_ge HOW.out))
     clear hown9 hgr9 hat9
     go_wp2_with fail
     exact⟨⟨k+1,O0,by go_num,HO9.out,HB9.out⟩,by simp[intOf];omega⟩
    ·obtain rfl : k = j := O0
     have e:OB ls k=ls.flatten.length:=by unfold OB;rw[HM.out,List.take_length]
     rw[e,HM.out,List.take_length] at hown
     have HE:=U hown
     have HB:=U hb
     clear hown hb e
     go_wp2_with fail
     go_ret
     exact⟨_,rfl,HE.out,HB.out⟩
attribute [local go_sem] Oper.semAt_some
variable {E Z : Nat -> Prop} {w w' : World} {xb : Nat} {x : XM}
theorem Q493.Y491 (h:p:=by
 have HR:Hid (CSt w.heap.size w2 (nn+1) (x.flows.take (j+1)) w9 v9 ((x.flows.take j).flatMap (DT now)++Gn now ff (ts.take (k+1)))):=U (by
  rw[HSN.out,if_pos (of_decide_eq_true HP.out.symm), <-List.append_assoc, <-HSR.out,show dueK ff (tid,ta)=⟨ff,tid,n1,ta⟩ from by rw[HN1.out];rfl]
  exact HST2.out.append HPB.out HB8.out hown9 hgr9)
 exact M115):p:=h
theorem Q347.Y345 (h:p:=by
 obtain⟨rs,hrs⟩:=Rm ((x.flows.take j).flatMap (DT now)++Gn now ff (ts.take k))
 open Q493 in exact M491):p:=h
theorem Q462.Y461 (h:p:=by
 clear hb5 hb36 hp HC hx6 g0 g1
 replace hW6:=U hW6
 go_upto_region 11 with fail
 rw[<-hW6.out, <-hg6]
 clear hW6 hg6
 cases p with
 | false=>
  have HR:Hid (CSt w.heap.size w2 (nn+1) (x.flows.take (j+1)) W6 u7 ((x.flows.take j).flatMap (DT now)++Gn now ff (ts.take (k+1)))):=U (by
   rw[HSN.out,if_neg (of_decide_eq_false HP.out.symm),List.append_nil]
   exact HST2.out.later HPB.out HB36.out)
  exact M159
 | true=>
  open Q347 in exact M345):p:=h
theorem Q692.Y690 (h:p:=by
 have HR0:Hid (CSt w.heap.size w2 (nn+1) (x.flows.take (j+1)) w3 u7 ((x.flows.take j).flatMap (DT now)++Gn now ff (ts.take 0))):=U (by rw[List.take_zero];unfold Gn;rw[List.filter_nil,List.map_nil,List.append_nil];exact HS3.out)
 have HSZ3:Hid (w2.heap.size<=w3.heap.size):=U HS3.out.chg.size
 simp only[maxLen] at hcp
 clear hb3 hin hnew
 go_wp2_with fail
 go_loopw [7,33] (fun u2 i wr2=>∃k:Nat,k<=L/\i= .int .i64 k/\w3.heap.size<=wr2.heap.size/\Off w3 A2 wr2 u2/\CSt w.heap.size w2 (nn+1) (x.flows.take (j+1)) wr2 u2 ((x.flows.take j).flatMap (DT now)++Gn now ff (ts.take k))) (fun _ i _=>L-(intOf i).toNat)
 case atStart=>exact⟨0,O0,rfl,Nat.le_refl _,HOF.out,HR0.out⟩
 case round=>
  obtain⟨k,hk,rfl,hz3,hoff,hst⟩:=hrel
  have HST2:=U hst;have HOFF:=U hoff;have HZ3:=U hz3
  clear hst hoff hz3
  by_cases hlk:k<L
  ·have hkl : k < ts.length := by have := HL.out; omega
   have HBW:Hid (Below w.heap.size w wr):=U (HST2.out.below (Nat.le_refl _) HB2.out)
   have HRS:Hid (((x.flows.take j).flatMap (DT now)++Gn now ff (ts.take k)).length<=1000000000000):=U (HRL.out j hjl _ (Nat.le_trans (Ja now _ _) (by have:=HLT.out;simp;omega)))
   have HSN:Hid (Gn now ff (ts.take (k+1))=Gn now ff (ts.take k)++if ts[k].2<=now then [dueK ff ts[k]] else []):=U (PR now ff ts k hkl)
   obtain⟨bb,rfl,hbb,hcells⟩:=(DIn.keep HKI.out HZ3.out fun b hA hlt=>(HOFF.out b hA hlt).1) O0
   obtain⟨e0,e1⟩:=hcells k hkl
   obtain⟨t,ht⟩:=Rm (ts[k])
   rw[<-ht] at e0 e1 HSN
   have HT:=U ht
   clear hcells ht
   obtain⟨tid,ta⟩:=t
   dsimp only at e0 e1
   obtain⟨W4,hW4⟩:=Rm (wr.alloc (.cells #[.int .u64 (tid:Nat),.int .u64 (ta:Nat)] 89))
   have hb4:Below wr.heap.size wr W4:=by rw[hW4];exact Rl
   have HZ4:Hid (W4.heap.size=wr.heap.size+1):=U (by rw[hW4];simp)
   have hx4:W4.heap[wr.heap.size]?=some (.cells #[.int .u64 (tid:Nat),.int .u64 (ta:Nat)] 89 (0,0)):=by rw[hW4];exact heap_alloc_new _ _
   have g0:W4.cell? ⟨wr.heap.size,0,none⟩=some (.int .u64 (tid:Nat)):=by simp[World.cell?,hx4]
   have g1:W4.cell? ⟨wr.heap.size,1,none⟩=some (.int .u64 (ta:Nat)):=by simp[World.cell?,hx4]
   clear hx4
   have HB4:Hid (Below w.heap.size w W4):=U (HBW.out.trans (hb4.mono HBW.out.size))
   have HB34:=U hb4
   have HC:=U (due1_any tid ta nb now W4 ((HB4.out.cell (p:=⟨nb,0,none⟩) hnb).trans HHN.out) (Nat.lt_of_lt_of_le hnb HB4.out.size))
   clear hb4
   replace hW4:=U hW4
   go_upto_region 10 with fail
   rw[<-hW4.out]
   clear e0 e1
   go_wp2_with fail
   refine HC.out.mono ?_
   rintro r w5 ⟨rfl,hb5⟩
   obtain⟨p,hp⟩:=Rm (decide (ta<=now))
   rw[<-hp]
   have HP:=U hp
   obtain⟨n1,hn1⟩:=Rm (0:Int)
   open Q462 in exact M461
  ·have hk' : L = k := O0
   subst hk'
   have HR:Hid (CSt w.heap.size w2 (nn+1) (x.flows.take (j+1)) wr u7 ((x.flows.take (j+1)).flatMap (DT now))):=U (by
    have h:=HST2.out
    rw[show ts.take L=ts by rw[HL.out];exact List.take_length,HTS.out,HFF.out] at h
    rw[show (x.flows.take (j+1)).flatMap (DT now)=(x.flows.take j).flatMap (DT now)++Gn now x.flows[j].flow x.flows[j].s.timers by rw[List.take_succ_eq_append_getElem hjl,List.flatMap_append,List.flatMap_singleton];rfl]
    exact h)
   exact M169):p:=h
theorem Q714.Y712 (h:p:=by
 have HKI:Hid (DIn w3 A2 ts):=U (fun hp=>hin.2.2 hp)
 open Q692 in exact M690):p:=h
theorem Q388.Y386 (h:p:=by
 have HK:=U (Um hat (by have:=hat.nn;have:=HGJ.out.tot;omega) (fun t ht=>by have:=HGJ.out.fine.fine.belowT t ht;have:=HGJ.out.fine.next;have:=HGJ.out.tot;omega) (by have:=FE HGJ.out.fine;have:=HGJ.out.tot;omega))
 obtain⟨ts,hts⟩:=Rm (x.flows[j].s.timers)
 have HTS:=U hts
 rw[<-hts] at HK
 obtain⟨L,hL⟩:=Rm (ts.length)
 have HL:=U hL
 have HL2:Hid (L<=1200000000000):=U (by rw[hL,hts];have:=FE HGJ.out.fine;have:=HGJ.out.tot;omega)
 have HLT:Hid (ts.length<=T+1):=U (by rw[hts];have:=FE HGJ.out.fine;have:=HGJ.out.tot;omega)
 open Q714 in exact M712):p:=h
theorem Q490.Y488 (h:p:=by
 have HC0:Hid (CSt w.heap.size w2 0 (x.flows.take 0) w2 (.slice none 0 0) ((x.flows.take 0).flatMap (DT now))):=U ⟨Chg.refl _ _,HP0.out.keep (hb2.block _ (by have:=HZ0.out;omega)),by simp only[List.take_zero,List.flatMap_nil];exact⟨rfl,.inl ⟨rfl,rfl⟩⟩⟩
 rw[<-HM.out]
 clear hown hb2
 go_wp2_with fail
 go_loopw [7,19] (fun u i wr=>∃(j nn:Nat),j<=m/\nn<=j/\i= .int .i64 j/\CSt w.heap.size w2 nn (x.flows.take j) wr u ((x.flows.take j).flatMap (DT now))) (fun _ i _=>m-(intOf i).toNat)
 case atStart=>exact⟨0,0,O0,O0,rfl,HC0.out⟩
 case round=>
  obtain⟨j,nn,hj,hnn,rfl,hst⟩:=hrel
  have HST:=U hst
  clear hst
  by_cases hlt:j<m
  ·open Q388 in exact M386
  ·exact M47):p:=h
theorem Q454.Y452 (h:p:=by
 have HRL:Hid (∀j (hj:j<x.flows.length) ys,ys.length<=T+1->((x.flows.take j).flatMap (DT now)++ys).length<=1000000000000):=U fun j hj ys hy=>by
  have h1:=FD (l:=x.flows.take j) (F:=(DT now)) (M:=T+1) fun h hh=>by
   have g:=hg.good h (List.mem_of_mem_take hh)
   refine Nat.le_trans (Ot now h) (Nat.le_trans (FE g.fine) ?_)
   have:=g.tot;omega
  exact M137
 have HX:=U H;have HG:=U hg;have HFL:=U hfl;have HS:=U hS
 have HB0:=U hb0;have HZ0:=U hz;have HP0:=U hp0;have HHN:=U hn
 clear H hg hfl hS hb0 hz hp0 hm hn hN hTN
 replace hW0:=U hW0
 go_enter Tryz.func34,Tryz.ntmps34
 open Q490 in exact M488):p:=h
theorem XE (H:XAt E w xb Z x){T N:Nat}(hg:XGood x T N)(hT:T<=1100000000000)(hN:x.flows.length<=1000000)(hTN:x.flows.length*(T+1)<=1000000000000)(hfl:∀h∈x.flows,h.flow.size<=maxLen)(now nb:Nat)(hn:w.cell? ⟨nb,0,none⟩=some (.int .u64 (now:Nat)))(hnb:nb<w.heap.size)(out:List RF)(hS:Gt x.flows (x.flows.flatMap (DT now)) out) :
  Calls Tryz.prog 34 #[.pointer (some ⟨xb,0,none⟩),.func (.func 35) #[] #[],.func (.func 36) #[] #[.pointer (some ⟨nb,0,none⟩)]] w fun r w'=>∃A c,r= .returned (.slice A out.length c)/\Below w.heap.size w w'/\CIn w' (.slice A out.length c) out.length 4 (out.flatMap rfL)/\∀r,rowOf A=some r->w.heap.size<=r:=by
 open Q454 in exact M452
end Ta
namespace Hi
open _root_.Go.Proofs.YtaahfiopdoinkaaGreat.Nm (Dk De)
open _root_.Go.Proofs.YtaahfiopdoinkaaGreat.Rt (Oj)
open Bt (FL FG)
open Vt (VT Rep Da)
open Cm (rowOf EvsIn)
attribute [local go_sem] Oper.semAt_some
variable {E : Nat -> Prop} {w w' : World} {xb mb nm cN cR clk : Nat} {N R : Option Addr} {ps : List HB} {fl : List HM} {rl : List (List Nat)}
attribute [local go_sem] Oper.semAt_some
variable {w w' : World}
def N0 (w:World)(m g bx:Nat)(W:World):Prop:=Boxed W g 81 (.slice none 0 0)/\Boxed W bx 24 (.pointer none)/\Below w.heap.size w W/\m<=W.heap.size
theorem N0.put {m g bx:Nat}{W:World}{k:Nat}{o:Obj}(o':Obj)(h:N0 w m g bx W)(hm:w.heap.size<=m)(hl:m<=k)(hk:W.heap[k]?=some o)(ho:o.isCells=false):N0 w m g bx (W.putObj k o'):=by
 obtain⟨h1,h3,h4,h5⟩:=h
 exact⟨FL h1 o' hk ho,FL h3 o' hk ho,FG o' h4 O0 O0,by rw[World.putObj_size];exact h5⟩
theorem N0.alloc {m g bx:Nat}{W:World}(h:N0 w m g bx W)(hm:w.heap.size<=m)(o:Obj):N0 w m g bx (W.alloc o):=by
 obtain⟨h1,h3,h4,h5⟩:=h
 exact⟨h1.alloc o,h3.alloc o,h4.alloc O0 o,by simp;omega⟩
end Hi
namespace Ta
open _root_.Go.Proofs.YtaahfiopdoinkaaGreat.Nm (Dk De)
open Vt (Da)
open Cm (rowOf)
open Hi (TK HM XM XGood XAt CIn FV)
attribute [local go_sem] Oper.semAt_some
variable {E Z : Nat -> Prop} {w w' : World} {xb : Nat} {x : XM}
def RefsOut (w:World)(out:List RF)(r:Ending)(w':World):Prop:=∃A c,r= .returned (.slice A out.length c)/\Below w.heap.size w w'/\CIn w' (.slice A out.length c) out.length 4 (out.flatMap rfL)/\∀r,rowOf A=some r->w.heap.size<=r
theorem RefsOut.back {w1:World}{out:List RF}{r:Ending}(hb:Below w.heap.size w w1)(h:RefsOut w1 out r w'):RefsOut w out r w':=by
 obtain⟨A,c,h1,h2,h3⟩:=h
 exact⟨A,c,h1,hb.trans (h2.mono hb.size),h3.1,fun r hr=>Nat.le_trans hb.size (h3.2 r hr)⟩
theorem M98 (h:p:=by
 go_wp2_with fail
 refine HC.out.mono ?_
 rintro r w2 ⟨A,c,rfl,hb2,hin⟩
 have HB2:=U (HB1.out.trans (hb2.mono HB1.out.size));have HIN:=U hin
 clear hb2 hin HC
 go_wp2_with fail
 go_ret
 exact⟨A,c,rfl,HB2.out,HIN.out.1,fun r hr=>Nat.le_trans HB1.out.size (HIN.out.2 r hr)⟩):p:=h
theorem PM (H:XAt E w xb Z x){T N:Nat}(hg:XGood x T N)(hT:T<=1100000000000)(hN:x.flows.length<=1000000)(hTN:x.flows.length*(T+1)<=1000000000000)(hfl:∀h∈x.flows,h.flow.size<=maxLen)(fl:Bool)(now:Nat)(out:List RF)(hS:Gt x.flows (x.flows.flatMap (refsOf fl now)) out) :
  Calls Tryz.prog 33 #[.pointer (some ⟨xb,0,none⟩),.bool fl,.int .u64 (now:Nat)] w (RefsOut w out):=by
 obtain⟨W0,hW0⟩:=Rm (w.alloc (.cells #[.bool fl] 4))
 obtain⟨W1,hW1⟩:=Rm (W0.alloc (.cells #[.int .u64 (now:Nat)] 23))
 have hz0:W0.heap.size=w.heap.size+1:=by rw[hW0];simp
 have hz1:W1.heap.size=W0.heap.size+1:=by rw[hW1];simp
 have hb0:Below w.heap.size w W0:=by rw[hW0];exact Rl
 have hb01:Below W0.heap.size W0 W1:=by rw[hW1];exact Rl
 have hb1:Below w.heap.size w W1:=hb0.trans (hb01.mono hb0.size)
 have c0:W1.cell? ⟨w.heap.size,0,none⟩=some (.bool fl):=(hb01.cell (p:=⟨w.heap.size,0,none⟩) (by show w.heap.size<_;omega)).trans (by rw[hW0];exact(FV (World.alloc_heap_new w _)).1)
 have c1:W1.cell? ⟨W0.heap.size,0,none⟩=some (.int .u64 (now:Nat)):=by rw[hW1];exact(FV (World.alloc_heap_new W0 _)).1
 have HC:=U (XD (H.later hb1) hg hT hN hTN hfl fl now W0.heap.size w.heap.size c0 O0 c1 O0 out hS)
 rw[hz0] at HC
 have HB1:=U hb1
 clear H hg hfl hS hN hTN hb1 hb0 hb01 hz0 hz1 c0 c1
 replace hW1:=U hW1;replace hW0:=U hW0
 go_enter Tryz.func33,Tryz.ntmps33
 go_upto_region 1 with fail
 rw[<-hW0.out, <-hW1.out]
 exact M98
theorem M78 (h:p:=by
 go_wp2_with fail
 refine HC.out.mono ?_
 rintro r w2 ⟨A,c,rfl,hb2,hin⟩
 have HB2:=U hb2;have HIN:=U hin
 clear hb2 hin HC
 go_wp2_with fail
 go_ret
 exact⟨A,c,rfl,HB2.out,HIN.out⟩):p:=h
theorem Oh (H:XAt E w xb Z x){T N:Nat}(hg:XGood x T N)(hT:T<=1100000000000)(hN:x.flows.length<=1000000)(hTN:x.flows.length*(T+1)<=1000000000000)(hfl:∀h∈x.flows,h.flow.size<=maxLen)(now:Nat)(out:List RF)(hS:Gt x.flows (x.flows.flatMap (refsOf false now)) out) :
  Calls Tryz.prog 14 #[.pointer (some ⟨xb,0,none⟩),.int .u64 (now:Nat)] w (RefsOut w out):=by
 have HC:=U (PM H hg hT hN hTN hfl false now out hS)
 clear H hg hfl hS hN hTN
 go_enter Tryz.func14,Tryz.ntmps14
 exact M78
theorem Pd (H:XAt E w xb Z x){T N:Nat}(hg:XGood x T N)(hT:T<=1100000000000)(hN:x.flows.length<=1000000)(hTN:x.flows.length*(T+1)<=1000000000000)(hfl:∀h∈x.flows,h.flow.size<=maxLen)(now:Nat)(out:List RF)(hS:Gt x.flows (x.flows.flatMap (refsOf true now)) out) :
  Calls Tryz.prog 21 #[.pointer (some ⟨xb,0,none⟩),.int .u64 (now:Nat)] w (RefsOut w out):=by
 have HC:=U (PM H hg hT hN hTN hfl true now out hS)
 clear H hg hfl hS hN hTN
 go_enter Tryz.func21,Tryz.ntmps21
 exact M78
theorem Ki (H:XAt E w xb Z x){T N:Nat}(hg:XGood x T N)(hT:T<=1100000000000)(hN:x.flows.length<=1000000)(hTN:x.flows.length*(T+1)<=1000000000000)(hfl:∀h∈x.flows,h.flow.size<=maxLen)(out:List RF)(hS:Gt x.flows (x.flows.flatMap (refsOf true 18446744073709551615)) out) :
  Calls Tryz.prog 22 #[.pointer (some ⟨xb,0,none⟩)] w (RefsOut w out):=by
 have HC:=U (PM H hg hT hN hTN hfl true 18446744073709551615 out hS)
 clear H hg hfl hS hN hTN
 go_enter Tryz.func22,Tryz.ntmps22
 exact M78
theorem Ue (H:XAt E w xb Z x){T N:Nat}(hg:XGood x T N)(hT:T<=1100000000000)(hN:x.flows.length<=1000000)(hTN:x.flows.length*(T+1)<=1000000000000)(hfl:∀h∈x.flows,h.flow.size<=maxLen)(now:Nat)(out:List RF)(hS:Gt x.flows (x.flows.flatMap (DT now)) out) :
  Calls Tryz.prog 15 #[.pointer (some ⟨xb,0,none⟩),.int .u64 (now:Nat)] w (RefsOut w out):=by
 obtain⟨W1,hW1⟩:=Rm (w.alloc (.cells #[.int .u64 (now:Nat)] 23))
 have hb1:Below w.heap.size w W1:=by rw[hW1];exact Rl
 have HC:=U (XE (H.later hb1) hg hT hN hTN hfl now w.heap.size (by rw[hW1];exact(FV (World.alloc_heap_new w _)).1) (by rw[hW1];simp) out hS)
 have HB1:=U hb1
 clear H hg hfl hS hN hTN hb1
 replace hW1:=U hW1
 go_enter Tryz.func15,Tryz.ntmps15
 go_upto_region 1 with fail
 rw[<-hW1.out]
 exact M98
attribute [local go_sem] Oper.semAt_some
variable {w w' : World}
theorem VN (xf:ByteArray)(xi:Nat)(xn:Int)(xa now nb:Nat)(w:World)(hc:w.cell? ⟨nb,0,none⟩=some (.int .u64 (now:Nat)))(hnb:nb<w.heap.size) :
  Calls Tryz.prog 44 #[.agg #[.string xf,.int .u64 (xi:Nat),.int .i64 xn,.int .u64 (xa:Nat)],.pointer (some ⟨nb,0,none⟩)] w fun e w'=>e= .returned (.bool (decide (xa<=now)))/\Below w.heap.size w w':=by
 obtain⟨W1,hW1⟩:=Rm (w.alloc (.cells #[.string xf,.int .u64 (xi:Nat),.int .i64 xn,.int .u64 (xa:Nat)] 57))
 obtain⟨g,hg⟩:=Rm (w.heap.size)
 have hb:Below w.heap.size w W1:=by rw[hW1];exact Rl
 have hx:W1.heap[g]?=some (.cells #[.string xf,.int .u64 (xi:Nat),.int .i64 xn,.int .u64 (xa:Nat)] 57 (0,0)):=by rw[hW1,hg];exact heap_alloc_new _ _
 have y3:W1.cell? ⟨g,3,none⟩=some (.int .u64 (xa:Nat)):=by simp[World.cell?,hx]
 have z0:W1.cell? ⟨nb,0,none⟩=some (.int .u64 (now:Nat)):=(hb.cell (p:=⟨nb,0,none⟩) hnb).trans hc
 have HB:=U hb
 clear hb hx hc hnb
 replace hW1:=U hW1;replace hg:=U hg
 have hp:(decide ((xa:Int)<=(now:Int)))=decide (xa<=now):=O3
 have HP:=U hp
 clear hp
 go_enter Tryz.func44,Tryz.ntmps44
 go_upto_region 1 with fail
 rw[<-hW1.out, <-hg.out]
 go_wp2_with fail
 go_ret
 exact⟨by first | rfl|(simp;done),HB.out⟩
attribute [local go_sem] Oper.semAt_some
end Ta
end Go.Proofs.YtaahfiopdoinkaaGreat
