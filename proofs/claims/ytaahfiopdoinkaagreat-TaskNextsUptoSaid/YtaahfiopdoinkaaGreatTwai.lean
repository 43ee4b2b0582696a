/- Collecting the values of a map: helpers. -/
import Derived.Test.YtaahfiopdoinkaaGreatTwah
import Derived.RangeFuncMany
import Derived.RangeFuncLeaves
import Derived.RangeFuncGives
import Derived.Sort.MapsRangeIn
import Derived.Maps.AppendAt
import Derived.Maps.OwnIn
import Derived.WalkKit
import Derived.OwnWalkIn
import Derived.TacticsInMore
import Derived.RegionIn
import Derived.LoopNIn
import Derived.LoopIn
import Derived.RangeFuncCalls
import Derived.RangeFuncNested
import Derived.RangeFuncBound
import Derived.RangeFuncBox
set_option maxRecDepth 100000
set_option maxHeartbeats 2000000
variable {p : Prop}
set_option linter.unusedVariables false
set_option linter.unusedSimpArgs false
namespace Go.Proofs.YtaahfiopdoinkaaGreat
open Go.RowKit Go.Maps Go.Sort Go.ChangeMaps Go.WideShapes Go.WideMaps
namespace Hi
open Vt (VT Rep)
variable {w : World} {b n : Nat} {D : DataW Value}
def Vv {α:Type}(D:DataW Value)(M:Nat->Option α)(enc:α->Value):Prop:=∀id,id<18446744073709551616->At D (GX id) ((M id).map enc)
theorem UE {α:Type}{M:Nat->Option α}{enc:α->Value}(h:Vv D M enc){id:Nat}(hid:id<18446744073709551616):Maps.has D (GX id)=(M id).isSome:=by
 have:=h id hid
 cases hm:M id with
 | none=>rw[hm] at this;exact this
 | some x=>rw[hm] at this;exact this.1
def Rk {α:Type}(D:DataW Value)(M:Nat->Option α)(key:α->Nat)(left:Lit->Bool)(ss:List α):Prop:=
 (ss.map key).Nodup/\(∀x∈ss,M (key x)=some x/\key x<18446744073709551616)/\∀id,id<18446744073709551616->(id∈ss.map key↔(Maps.has D (GX id)=true/\left (GX id)=false))
theorem Va {α:Type}(D:DataW Value)(M:Nat->Option α)(key:α->Nat):Rk D M key (Maps.has D) []:=⟨List.nodup_nil,fun x h=>by simp at h,fun id _=>by cases Maps.has D (GX id)<;>simp⟩
theorem Nv {a b:Nat}:(GX a).sameKey (GX b)=decide (a=b):=by
 unfold GX
 by_cases h:a=b
 ·subst h;simp[Lit.sameKey]
 ·rw [decide_eq_false h]
  simp only[Lit.sameKey]
  simp;omega
theorem VX {α:Type}{M:Nat->Option α}{key:α->Nat}{left:Lit->Bool}{ss:List α}(h:Rk D M key left ss){x:α}(hx:M (key x)=some x)(hk:key x<18446744073709551616)(hl:left (GX (key x))=true)(hh:Maps.has D (GX (key x))=true) :
  Rk D M key (fun z=>left z&& !z.sameKey (GX (key x))) (ss++ [x]):=by
 obtain⟨h1,h2,h3⟩:=h
 have hnew:key x∉ss.map key:=fun q=>by have:=((h3 _ hk).1 q).2;rw[hl] at this;cases this
 refine⟨?_,fun y hy=> ?_,fun id hid=> ?_⟩
 ·rw [List.map_append]
  refine List.nodup_append.2 ⟨h1,by simp,fun a ha b hb=> ?_⟩
  simp at hb;subst hb
  exact fun e=>hnew (e ▸ ha)
 ·rcases List.mem_append.1 hy with q | q
  ·exact h2 y q
  ·rw[List.mem_singleton.1 q];exact⟨hx,hk⟩
 ·rw [List.map_append, List.mem_append]
  dsimp only
  rw[Nv]
  by_cases e:id=key x
  ·subst e;simp[hh]
  ·rw[h3 id hid];simp[e]
def All {α:Type}(M:Nat->Option α)(key:α->Nat)(ss:List α):Prop:=(ss.map key).Nodup/\(∀x∈ss,M (key x)=some x/\key x<18446744073709551616)/\∀id,id<18446744073709551616->(id∈ss.map key↔(M id).isSome=true)
theorem Jh {α:Type}{M:Nat->Option α}{enc:α->Value}(hs:Vv D M enc){key:α->Nat}{left:Lit->Bool}{ss:List α}(h:Rk D M key left ss)(hl:∀kl,left kl=false):All M key ss:=
 ⟨h.1,h.2.1,fun id hid=>by rw[h.2.2 id hid,hl,UE hs hid];simp⟩
theorem FV {W:World}{B:Nat}{v:Value}{t:TypeId}(h:W.heap[B]?=some (.cells #[v] t (0,0))):W.cell? ⟨B,0,none⟩=some v/\W.frozen? ⟨B,0,none⟩=false:=by
 constructor<;>simp[World.cell?,World.frozen?,h]
theorem Ll {W:World}{B:Nat}{v:Value}{t:TypeId}(v':Value)(h:W.heap[B]?=some (.cells #[v] t (0,0))):(W.setCell ⟨B,0,none⟩ v').heap[B]?=some (.cells #[v'] t (0,0)):=by
 simp[World.setCell,Array.getElem?_modify,h]
end Hi
end Go.Proofs.YtaahfiopdoinkaaGreat
namespace Go.Proofs.YtaahfiopdoinkaaGreat
open Go.RowKit Go.Maps Go.Sort Go.ChangeMaps Go.WideShapes Go.WideMaps
attribute [local go_sem] Oper.semAt_some
namespace Hi
open Vt (VT Rep)
def Ge : Nat×Nat->Array Value:=fun x=> #[.int .u64 (x.1:Nat),.int .u64 (x.2:Nat)]
theorem ti_gives (F : Fence) (n : Nat) (hf : F.fn 95) (hro : F.round = none) (hn : 1 <= n) (Bm b nn : Nat) (D : DataW Value) (M : Nat -> Option (Nat × Nat)) (hM : Vv D M FO) (hkey : ∀ id x, M id = some x -> (fun x : Nat × Nat => x.1) x = id) (w : World) (hBm : Bm < w.heap.size)
  (hm:w.cell? ⟨Bm,0,none⟩=some (.map (some b))) (hown:w.ownsMap Tryz.prog 23 HR b nn D) :
  SeqStopsK F n Tryz.prog 95 #[.pointer (some ⟨Bm,0,none⟩)] (fun x=> #[FO x]) KeepsWalks (All M (fun x:Nat×Nat=>x.1)) (fun _=>True) (Maps.size D) w:=fun l J Jx W hW hJ hJx hY h0=>by
 have hown':W.ownsMap Tryz.prog 23 HR b nn D:=DW hown (hW.block b hown.lt)
 have hm':W.cell? ⟨Bm,0,none⟩=some (.map (some b)):=(hW.cell (p:=⟨Bm,0,none⟩) hBm).trans hm
 refine callsIn_of_wp Tryz.func95 rfl hf ?_ hro
 simp only[Tryz.ntmps95,List.size_toArray,List.length_cons,List.length_nil,Nat.reduceAdd,Nat.reduceSub,Array.replicate_succ,Array.replicate_zero,List.push_toArray,List.append_toArray,List.nil_append,List.cons_append]
 gi_wp2_with (first
  | (gi_at_range;refine wpListIn_range_own _ rfl _ 120 rfl 23 89 Fe Tryz.underlying120 HR b nn D rfl hown' ?_;intro w0 hrg0 hg0 hs0)
  | gi_in)
 try go_frame
 gi_loopw [7] (fun _ wr => ∃ (left : Lit -> Bool) (cnt : Nat) (ss : List (Nat × Nat)), wr.ranges Tryz.prog 23 HR b W.heap.size nn D left cnt /\ ss.length + cnt <= Maps.size D /\ Rk D M (fun x : Nat × Nat => x.1) left ss /\ J ss wr)
  (fun _ wr=>wr.rangeLeft b W.heap.size)
 case atStart=>
  exact⟨_,_,[],hrg0,by simp,Va D M (fun x:Nat×Nat=>x.1),hJ [] W w0 none h0 hg0 (fun r e=>by cases e)⟩
 case round=>
  obtain⟨left,cnt,ss,hrg,hcs,hC,hJs⟩:=hrel
  gi_wp2_with (first
   | (gi_at_next;refine wpListIn_next_ranges _ rfl _ rfl 23 Fe HR (Value.int .u64) id (fun key kl hk=>by obtain⟨x,rfl,_⟩:=Maps.keyOf_int_inv Tryz.underlying23 hk;exact⟨x,rfl⟩) (fun v _ _=>⟨v,rfl⟩) b W.heap.size nn _ _ _ rfl hrg ?_ ?_)
   | gi_in)
  ·-- nothing is left
   intro hc0 hl0
   gi_wp2
   go_end0
   exact⟨⟨_,rfl⟩,.inl ⟨ss,Jh hM hC hl0,hJs⟩⟩
  ·-- an entry has come
   intro x c kl yd yp w2 cnt2 hkk hlk hv hat hrg2 hlt hg2 hs2 hen
   obtain⟨x',ex,rfl,hwf⟩:=Maps.keyOf_int_inv Tryz.underlying23 hkk
   cases ex
   have hx0:0<=x/\x<18446744073709551616:=by
    simp[Lit.wf,IntKind.min,IntKind.max,IntKind.bits,IntKind.signed] at hwf;omega
   obtain⟨i,rfl⟩:∃i:Nat,x=(i:Int):=⟨x.toNat,by omega⟩
   have hi:i<18446744073709551616:=by omega
   have hhas:Maps.has D (GX i)=true:=has_true_of_atKey hat
   obtain⟨t,ht⟩:∃t,M i=some t:=by have:=UE hM hi;rw[hhas] at this;exact Option.isSome_iff_exists.1 this.symm
   have hkt:=hkey i t ht
   have hsa:=hM i hi
   rw[ht] at hsa
   obtain rfl:c=FO t:=by
    have h1:=hsa.2 (.lit (.bool true))
    have h2:=hat (.lit (.bool true))
    have h3:yd= .held c:=by have:=hv;simp only[HR,Option.some.injEq,Prod.mk.injEq] at this;exact this.1.symm
    rw[h3] at h2
    have h4:=h2.symm.trans h1
    simpa using h4
   have hJ2:J ss w2:=hJ ss wr w2 (some W.heap.size) hJs hg2 (fun r e=>by cases e;exact⟨Nat.le_refl _,hrg.iter_walk⟩)
   obtain⟨t1,t2⟩:=t
   have hkt2:t1=i:=hkt
   subst hkt2
   have hJ3:=hJ ss w2 (w2.alloc (.cells #[.int .u64 (t1:Nat),.int .u64 (t2:Nat)] 89)) none hJ2 (World.grownBy_alloc _ _ _) (fun r e=>by cases e)
   have hrg3:=hrg2.alloc (.cells #[.int .u64 (t1:Nat),.int .u64 (t2:Nat)] 89)
   obtain⟨fn,tmps,assign,body,hy,hR⟩:=hY ss (t1,t2) _ hJ3 (by omega)
   have hC2:=VX hC (x:=(t1,t2)) ht hi hlk hhas
   clear hkt hs2 hsa hat hv hkk hwf
   dsimp only[FO] at hy hen
   gi_wp2
   refine hR.mono ?_
   rintro e W3 (⟨rfl,hJ4,hk3⟩|⟨rfl,hJx3⟩)
   ·gi_wp2
    have hrg4:=hrg3.of_walks hk3
    go_roundw
    case rel=>exact⟨_,cnt2,ss++ [((t1,t2):(Nat×Nat))],hrg4,by simp;omega,hC2,hJ4⟩
    case measure=>rw[hrg4.left_eq,hrg.left_eq];exact hlt
   ·gi_wp2
    refine bodyPost_ret (results_none rfl _ _ _) rfl ?_
    exact⟨⟨_,rfl⟩,.inr ⟨ss++ [(t1,t2)],trivial,hJx3⟩⟩
theorem LF (mb:Option Nat)(w:World):Calls Tryz.prog 62 #[.map mb] w fun e w'=>e= .returned (.func (.func 95) #[] #[.pointer (some ⟨w.heap.size,0,none⟩)])/\w'=w.alloc (.cells #[.map mb] 120):=by
 go_enter Tryz.func62,Tryz.ntmps62
 go_wp2_with fail
 go_ret
 exact⟨rfl,rfl⟩
theorem Tryz.info_ti : (Tryz.prog.info? 89).map (fun i=>(i.zero,i.size,i.bytes))=some (some (.agg #[.int .u64 0,.int .u64 0]),2,16):=by kernel_rfl
def DU : (Nat×Nat)->List Value:=fun x=>(Ge x).toList
theorem FY (x:(Nat×Nat)):(DU x).length=2:=rfl
theorem Un (x:(Nat×Nat)):∀u∈DU x,u.oneCell'=true:=by
 intro u hu
 simp only[DU,Ge,List.mem_cons,List.not_mem_nil,or_false] at hu
 rcases hu with rfl|rfl<;>rfl
theorem M92 (h:p:=by
 rintro D ss W hD hS ⟨⟨v,hv,hrow,hnil⟩,hB⟩ hK
 have hc1:=hv.cell
 gi_wp2
 refine⟨by simp,.inl ⟨_,_,rfl,run_takeDeferred hK,?_⟩⟩
 exact⟨_,results_tmp rfl _ _ _,v,ss,rfl,hS,ownsRow_putObj hrow _ hK rfl,hnil,hB.trans (belowK_b (w:=w) (Nat.le_refl _) W D _ _ (by omega) hK rfl rfl)⟩):p:=h
theorem M108 (h:p:=by
 gi_wp2
 exact hK _ _ ((KeepsOthers.alloc _ _).from _) (KeepsOthers.alloc _ _).walks ⟨⟨v,hv.alloc _,hrow.alloc _,hnil⟩,hB.alloc hB.size _⟩ ⟨W.heap.size,by have:=hB.size;have:=hv.lt;omega,World.alloc_heap_new W _,rfl⟩):p:=h
theorem M190 (h:p:=by
 exact⟨hk2.from _,hk2.walks,⟨⟨_,hv2,by simpa using hr2,by simp⟩,hB.trans hb2⟩⟩):p:=h
theorem LH (n : Nat) (hn : 2 <= n) (g : Nat) (lb : Array Value) (eg : ∀ args w, (callFunc g args).run Tryz.prog w = .ok (.enter g args) w) (S : List (Nat × Nat) -> Prop) (N : Nat) (hN : N <= maxLen) (hNb : N * 16 <= 140737488355328) (w : World)
  (hseq:SeqStopsK Fence.wide (n-1) Tryz.prog g lb (fun x=> #[FO x]) KeepsWalks S (fun _=>True) N w) :
  CallsIn Fence.wide n Tryz.prog 131 #[.slice none 0 0,.func (.func g) #[] lb] w fun e w'=>∃(v:Value) (ss:List (Nat×Nat)),e= .returned v/\S ss/\w'.ownsRow w.heap.size 89 2 v ss.length (ss.flatMap DU)/\(v= .slice none 0 0↔ss= [])/\Below w.heap.size w w':=by
 have h1:1<=n:=by omega
 obtain⟨i0,hi,hz0,hz1,hz2⟩:=info_parts Tryz.info_ti
 refine callsIn_of_wp_marks Tryz.func131 rfl trivial ?_ rfl
 simp only[Tryz.ntmps131,List.size_toArray,List.length_cons,List.length_nil,Nat.reduceAdd,Nat.reduceSub,Array.replicate_succ,Array.replicate_zero,List.push_toArray,List.append_toArray,List.nil_append,List.cons_append]
 gi_wp2_with fail
 obtain⟨W0,hW0⟩:∃W0,w.alloc (.cells #[.slice none 0 0] 134)=W0:=⟨_,rfl⟩
 have hs0:W0.heap.size=w.heap.size+1:=by rw[<-hW0];simp
 have bS:Boxed W0 w.heap.size 134 (.slice none 0 0):=by rw[<-hW0];exact Boxed.new w _ _
 have hb0:Below w.heap.size w W0:=by rw[<-hW0];exact(Below.refl _ w).alloc (Nat.le_refl _) _
 rw[hW0]
 refine wpIn_rangeFunc_ownH rfl h1 (gf := g) (lb := lb) rfl trivial eg hseq walksK_t walksK_b hb0 (fun _ => rfl)
  (fun pre W=>(∃v,Boxed W w.heap.size 134 v/\W.ownsRow w.heap.size 89 2 v pre.length (pre.flatMap DU)/\(v= .slice none 0 0↔pre= []))/\Below w.heap.size w W)
  (fun _ _ _=>False)
  (OwnFrom.and (Own.from (holdsRow_own w.heap.size w.heap.size 134 89 2 (fun pre:List (Nat×Nat)=>pre.length) (fun pre=>pre.flatMap DU) (fun pre v=>(v= .slice none 0 0↔pre= []))) _) (ownFrom_below (Nat.le_refl _) (by omega)))
  (fun _ _ _ _ _ hs _ _=>hs)
  ⟨⟨_,bS,World.ownsRow_nil _ _ _ _,by simp⟩,hb0⟩
  (fun x a' W=>∃Bx,w.heap.size<Bx/\W.heap[Bx]?=some (.cells (Ge x) 89 (0,0))/\a'={tmps:= #[.slice none 0 0,.func (.func g) #[] lb,.pointer (some ⟨w.heap.size,0,none⟩),undef,.slice none 0 0,.pointer (some ⟨Bx,0,none⟩),.func (.func g) #[] lb,FO x,undef,undef,undef,undef,undef],defers:=[]})
  (fun x a' _ A B row hs hg hr=>by
   obtain⟨Bx,q1,q2,q3⟩:=hs
   refine⟨Bx,q1,(hg.block Bx (Array.getElem?_eq_some_iff.1 q2).1 (fun e=> ?_)).trans q2,q3⟩
   obtain⟨-,o,ho,hc⟩:=hr Bx e.symm
   rw[q2] at ho;cases ho;cases hc)
  ?assign ?body ?done ?stop
 case assign=>
  rintro l pre x W K ⟨⟨v,hv,hrow,hnil⟩,hB⟩ hK
  obtain⟨x1,x2⟩:=x
  dsimp only[FO]
  exact M108
 case body=>
  rintro l pre x a' W hl ⟨r,hr⟩ ⟨⟨v,hv,hrow,hnil⟩,hB⟩ ⟨Bx,hBx,bX,rfl⟩ hlt
  obtain⟨x1,x2⟩:=x
  have hc1:=hv.cell
  have b0:W.cell? ⟨Bx,0,none⟩=some (.int .u64 (x1:Nat)):=by simp[World.cell?,bX,Ge]
  have b1:W.cell? ⟨Bx,1,none⟩=some (.int .u64 (x2:Nat)):=by simp[World.cell?,bX,Ge]
  have hnews:∀q u,(DU (x1,x2))[q]?=some u->(W.alloc (.cells (Ge (x1,x2)) 89)).cell? ((⟨W.heap.size,0,none⟩:Addr).add q)=some u:=World.news_of_block (t:=89) (fr:=(0,0)) (World.alloc_heap_new W _)
  dsimp only[FO,Ge] at hnews ⊢
  gi_wp2_with (first
   | (gi_at_builtin;refine wpListIn_append_own _ rfl _ _ 134 rfl w.heap.size 89 i0 _ 2 16 Tryz.underlying134 hi hz0 hz1 hz2 rfl (by decide) _ _ _ rfl (hrow.alloc _) ⟨W.heap.size,0,none⟩ 1 1 (DU (x1,x2)) rfl rfl hnews (Un (x1,x2)) (by omega) (by omega) (by have:=hB.size;simp;omega) ?_;intro v' w1 hown' hgrow _;obtain⟨g',cap',rfl⟩:=ownsRow_succ hown';obtain⟨hv1,hv2,hr2,hk2,hb2⟩:=hv.appended (by decide) hrow hB.size (Nat.le_refl _) hown' hgrow;have hc2:=hv1.cell;have hf2:=hv1.frozen)
   | gi_in)
  exact M190
 case done=>
  exact M92
 case stop=>
  rintro D c pre W _ _ h _
  exact h.elim
end Hi
end Go.Proofs.YtaahfiopdoinkaaGreat
namespace Go.Proofs.YtaahfiopdoinkaaGreat
open Go.RowKit Go.Maps Go.Sort Go.ChangeMaps Go.WideShapes Go.WideMaps
attribute [local go_sem] Oper.semAt_some
namespace Hi
open Vt (VT Rep)
structure TC where mk ::
 id:Nat
 nm:ByteArray
 k:Int
 n:Int
 f:Nat
 s:ByteArray
 A:Option Addr
 m:Nat
 c:Nat
 N:Int
 fl:Bool
 at':Nat
def DV : TC->Array Value:=fun x=> #[.int .u64 (x.id:Nat),.string x.nm,.int .i64 x.k,.int .i64 x.n,.float .f64 x.f,.string x.s,.slice x.A x.m x.c,.int .i64 x.N,.bool x.fl,.int .u64 (x.at':Nat)]
def Ga : TC->Value:=fun x=> .agg #[.int .u64 (x.id:Nat),.string x.nm,.int .i64 x.k,.int .i64 x.n,.float .f64 x.f,.string x.s,.slice x.A x.m x.c,.int .i64 x.N,.bool x.fl,.int .u64 (x.at':Nat)]
theorem ta_gives (F : Fence) (n : Nat) (hf : F.fn 85) (hro : F.round = none) (hn : 1 <= n) (Bm b nn : Nat) (D : DataW Value) (M : Nat -> Option TC) (hM : Vv D M Ga) (hkey : ∀ id x, M id = some x -> TC.id x = id) (w : World) (hBm : Bm < w.heap.size)
  (hm:w.cell? ⟨Bm,0,none⟩=some (.map (some b))) (hown:w.ownsMap Tryz.prog 23 HR b nn D) :
  SeqStopsK F n Tryz.prog 85 #[.pointer (some ⟨Bm,0,none⟩)] (fun x=> #[Ga x]) KeepsWalks (All M TC.id) (fun _=>True) (Maps.size D) w:=fun l J Jx W hW hJ hJx hY h0=>by
 have hown':W.ownsMap Tryz.prog 23 HR b nn D:=DW hown (hW.block b hown.lt)
 have hm':W.cell? ⟨Bm,0,none⟩=some (.map (some b)):=(hW.cell (p:=⟨Bm,0,none⟩) hBm).trans hm
 refine callsIn_of_wp Tryz.func85 rfl hf ?_ hro
 simp only[Tryz.ntmps85,List.size_toArray,List.length_cons,List.length_nil,Nat.reduceAdd,Nat.reduceSub,Array.replicate_succ,Array.replicate_zero,List.push_toArray,List.append_toArray,List.nil_append,List.cons_append]
 gi_wp2_with (first
  | (gi_at_range;refine wpListIn_range_own _ rfl _ 119 rfl 23 36 Fe Tryz.underlying119 HR b nn D rfl hown' ?_;intro w0 hrg0 hg0 hs0)
  | gi_in)
 try go_frame
 gi_loopw [7] (fun _ wr => ∃ (left : Lit -> Bool) (cnt : Nat) (ss : List TC), wr.ranges Tryz.prog 23 HR b W.heap.size nn D left cnt /\ ss.length + cnt <= Maps.size D /\ Rk D M TC.id left ss /\ J ss wr)
  (fun _ wr=>wr.rangeLeft b W.heap.size)
 case atStart=>
  exact⟨_,_,[],hrg0,by simp,Va D M TC.id,hJ [] W w0 none h0 hg0 (fun r e=>by cases e)⟩
 case round=>
  obtain⟨left,cnt,ss,hrg,hcs,hC,hJs⟩:=hrel
  gi_wp2_with (first
   | (gi_at_next;refine wpListIn_next_ranges _ rfl _ rfl 23 Fe HR (Value.int .u64) id (fun key kl hk=>by obtain⟨x,rfl,_⟩:=Maps.keyOf_int_inv Tryz.underlying23 hk;exact⟨x,rfl⟩) (fun v _ _=>⟨v,rfl⟩) b W.heap.size nn _ _ _ rfl hrg ?_ ?_)
   | gi_in)
  ·-- nothing is left
   intro hc0 hl0
   gi_wp2
   go_end0
   exact⟨⟨_,rfl⟩,.inl ⟨ss,Jh hM hC hl0,hJs⟩⟩
  ·-- an entry has come
   intro x c kl yd yp w2 cnt2 hkk hlk hv hat hrg2 hlt hg2 hs2 hen
   obtain⟨x',ex,rfl,hwf⟩:=Maps.keyOf_int_inv Tryz.underlying23 hkk
   cases ex
   have hx0:0<=x/\x<18446744073709551616:=by
    simp[Lit.wf,IntKind.min,IntKind.max,IntKind.bits,IntKind.signed] at hwf;omega
   obtain⟨i,rfl⟩:∃i:Nat,x=(i:Int):=⟨x.toNat,by omega⟩
   have hi:i<18446744073709551616:=by omega
   have hhas:Maps.has D (GX i)=true:=has_true_of_atKey hat
   obtain⟨t,ht⟩:∃t,M i=some t:=by have:=UE hM hi;rw[hhas] at this;exact Option.isSome_iff_exists.1 this.symm
   have hkt:=hkey i t ht
   have hsa:=hM i hi
   rw[ht] at hsa
   obtain rfl:c=Ga t:=by
    have h1:=hsa.2 (.lit (.bool true))
    have h2:=hat (.lit (.bool true))
    have h3:yd= .held c:=by have:=hv;simp only[HR,Option.some.injEq,Prod.mk.injEq] at this;exact this.1.symm
    rw[h3] at h2
    have h4:=h2.symm.trans h1
    simpa using h4
   have hJ2:J ss w2:=hJ ss wr w2 (some W.heap.size) hJs hg2 (fun r e=>by cases e;exact⟨Nat.le_refl _,hrg.iter_walk⟩)
   obtain⟨t0,t1,t2,t3,t4,t5,t6,t7,t8,t9,t10,t11⟩:=t
   have hkt2:t0=i:=hkt
   subst hkt2
   have hJ3:=hJ ss w2 (w2.alloc (.cells #[.int .u64 (t0:Nat),.string t1,.int .i64 t2,.int .i64 t3,.float .f64 t4,.string t5,.slice t6 t7 t8,.int .i64 t9,.bool t10,.int .u64 (t11:Nat)] 36)) none hJ2 (World.grownBy_alloc _ _ _) (fun r e=>by cases e)
   have hrg3:=hrg2.alloc (.cells #[.int .u64 (t0:Nat),.string t1,.int .i64 t2,.int .i64 t3,.float .f64 t4,.string t5,.slice t6 t7 t8,.int .i64 t9,.bool t10,.int .u64 (t11:Nat)] 36)
   obtain⟨fn,tmps,assign,body,hy,hR⟩:=hY ss ⟨t0,t1,t2,t3,t4,t5,t6,t7,t8,t9,t10,t11⟩ _ hJ3 (by omega)
   have hC2:=VX hC (x:=⟨t0,t1,t2,t3,t4,t5,t6,t7,t8,t9,t10,t11⟩) ht hi hlk hhas
   clear hkt hs2 hsa hat hv hkk hwf
   dsimp only[Ga] at hy hen
   gi_wp2
   refine hR.mono ?_
   rintro e W3 (⟨rfl,hJ4,hk3⟩|⟨rfl,hJx3⟩)
   ·gi_wp2
    have hrg4:=hrg3.of_walks hk3
    go_roundw
    case rel=>exact⟨_,cnt2,ss++ [(⟨t0,t1,t2,t3,t4,t5,t6,t7,t8,t9,t10,t11⟩:TC)],hrg4,by simp;omega,hC2,hJ4⟩
    case measure=>rw[hrg4.left_eq,hrg.left_eq];exact hlt
   ·gi_wp2
    refine bodyPost_ret (results_none rfl _ _ _) rfl ?_
    exact⟨⟨_,rfl⟩,.inr ⟨ss++ [⟨t0,t1,t2,t3,t4,t5,t6,t7,t8,t9,t10,t11⟩],trivial,hJx3⟩⟩
theorem LN (mb:Option Nat)(w:World):Calls Tryz.prog 52 #[.map mb] w fun e w'=>e= .returned (.func (.func 85) #[] #[.pointer (some ⟨w.heap.size,0,none⟩)])/\w'=w.alloc (.cells #[.map mb] 119):=by
 go_enter Tryz.func52,Tryz.ntmps52
 go_wp2_with fail
 go_ret
 exact⟨rfl,rfl⟩
theorem Tryz.info_ta : (Tryz.prog.info? 36).map (fun i=>(i.zero,i.size,i.bytes))=some (some (.agg #[.int .u64 0,.string ⟨#[]⟩,.int .i64 0,.int .i64 0,.float .f64 0,.string ⟨#[]⟩,.slice none 0 0,.int .i64 0,.bool false,.int .u64 0]),10,112):=by kernel_rfl
def GN : TC->List Value:=fun x=>(DV x).toList
theorem VF (x:TC):∀u∈GN x,u.oneCell'=true:=by
 intro u hu
 simp only[GN,DV,List.mem_cons,List.not_mem_nil,or_false] at hu
 rcases hu with rfl|rfl|rfl|rfl|rfl|rfl|rfl|rfl|rfl|rfl<;>rfl
theorem LP (n : Nat) (hn : 2 <= n) (g : Nat) (lb : Array Value) (eg : ∀ args w, (callFunc g args).run Tryz.prog w = .ok (.enter g args) w) (S : List TC -> Prop) (N : Nat) (hN : N <= maxLen) (hNb : N * 112 <= 140737488355328) (w : World)
  (hseq:SeqStopsK Fence.wide (n-1) Tryz.prog g lb (fun x=> #[Ga x]) KeepsWalks S (fun _=>True) N w) :
  CallsIn Fence.wide n Tryz.prog 116 #[.slice none 0 0,.func (.func g) #[] lb] w fun e w'=>∃(v:Value) (ss:List TC),e= .returned v/\S ss/\w'.ownsRow w.heap.size 36 10 v ss.length (ss.flatMap GN)/\(v= .slice none 0 0↔ss= [])/\Below w.heap.size w w':=by
 have h1:1<=n:=by omega
 obtain⟨i0,hi,hz0,hz1,hz2⟩:=info_parts Tryz.info_ta
 refine callsIn_of_wp_marks Tryz.func116 rfl trivial ?_ rfl
 simp only[Tryz.ntmps116,List.size_toArray,List.length_cons,List.length_nil,Nat.reduceAdd,Nat.reduceSub,Array.replicate_succ,Array.replicate_zero,List.push_toArray,List.append_toArray,List.nil_append,List.cons_append]
 gi_wp2_with fail
 obtain⟨W0,hW0⟩:∃W0,w.alloc (.cells #[.slice none 0 0] 43)=W0:=⟨_,rfl⟩
 have hs0:W0.heap.size=w.heap.size+1:=by rw[<-hW0];simp
 have bS:Boxed W0 w.heap.size 43 (.slice none 0 0):=by rw[<-hW0];exact Boxed.new w _ _
 have hb0:Below w.heap.size w W0:=by rw[<-hW0];exact(Below.refl _ w).alloc (Nat.le_refl _) _
 rw[hW0]
 refine wpIn_rangeFunc_ownH rfl h1 (gf := g) (lb := lb) rfl trivial eg hseq walksK_t walksK_b hb0 (fun _ => rfl)
  (fun pre W=>(∃v,Boxed W w.heap.size 43 v/\W.ownsRow w.heap.size 36 10 v pre.length (pre.flatMap GN)/\(v= .slice none 0 0↔pre= []))/\Below w.heap.size w W)
  (fun _ _ _=>False)
  (OwnFrom.and (Own.from (holdsRow_own w.heap.size w.heap.size 43 36 10 (fun pre:List TC=>pre.length) (fun pre=>pre.flatMap GN) (fun pre v=>(v= .slice none 0 0↔pre= []))) _) (ownFrom_below (Nat.le_refl _) (by omega)))
  (fun _ _ _ _ _ hs _ _=>hs)
  ⟨⟨_,bS,World.ownsRow_nil _ _ _ _,by simp⟩,hb0⟩
  (fun x a' W=>∃Bx,w.heap.size<Bx/\W.heap[Bx]?=some (.cells (DV x) 36 (0,0))/\a'={tmps:= #[.slice none 0 0,.func (.func g) #[] lb,.pointer (some ⟨w.heap.size,0,none⟩),undef,.slice none 0 0,.pointer (some ⟨Bx,0,none⟩),.func (.func g) #[] lb,Ga x,undef,undef,undef,undef,undef],defers:=[]})
  (fun x a' _ A B row hs hg hr=>by
   obtain⟨Bx,q1,q2,q3⟩:=hs
   refine⟨Bx,q1,(hg.block Bx (Array.getElem?_eq_some_iff.1 q2).1 (fun e=> ?_)).trans q2,q3⟩
   obtain⟨-,o,ho,hc⟩:=hr Bx e.symm
   rw[q2] at ho;cases ho;cases hc)
  ?assign ?body ?done ?stop
 case assign=>
  rintro l pre x W K ⟨⟨v,hv,hrow,hnil⟩,hB⟩ hK
  obtain⟨x0,x1,x2,x3,x4,x5,x6,x7,x8,x9,x10,x11⟩:=x
  dsimp only[Ga]
  exact M108
 case body=>
  rintro l pre x a' W hl ⟨r,hr⟩ ⟨⟨v,hv,hrow,hnil⟩,hB⟩ ⟨Bx,hBx,bX,rfl⟩ hlt
  obtain⟨x0,x1,x2,x3,x4,x5,x6,x7,x8,x9,x10,x11⟩:=x
  have hc1:=hv.cell
  have b0:W.cell? ⟨Bx,0,none⟩=some (.int .u64 (x0:Nat)):=by simp[World.cell?,bX,DV]
  have b1:W.cell? ⟨Bx,1,none⟩=some (.string x1):=by simp[World.cell?,bX,DV]
  have b2:W.cell? ⟨Bx,2,none⟩=some (.int .i64 x2):=by simp[World.cell?,bX,DV]
  have b3:W.cell? ⟨Bx,3,none⟩=some (.int .i64 x3):=by simp[World.cell?,bX,DV]
  have b4:W.cell? ⟨Bx,4,none⟩=some (.float .f64 x4):=by simp[World.cell?,bX,DV]
  have b5:W.cell? ⟨Bx,5,none⟩=some (.string x5):=by simp[World.cell?,bX,DV]
  have b6:W.cell? ⟨Bx,6,none⟩=some (.slice x6 x7 x8):=by simp[World.cell?,bX,DV]
  have b7:W.cell? ⟨Bx,7,none⟩=some (.int .i64 x9):=by simp[World.cell?,bX,DV]
  have b8:W.cell? ⟨Bx,8,none⟩=some (.bool x10):=by simp[World.cell?,bX,DV]
  have b9:W.cell? ⟨Bx,9,none⟩=some (.int .u64 (x11:Nat)):=by simp[World.cell?,bX,DV]
  have hnews:∀q u,(GN ⟨x0,x1,x2,x3,x4,x5,x6,x7,x8,x9,x10,x11⟩)[q]?=some u->(W.alloc (.cells (DV ⟨x0,x1,x2,x3,x4,x5,x6,x7,x8,x9,x10,x11⟩) 36)).cell? ((⟨W.heap.size,0,none⟩:Addr).add q)=some u:=World.news_of_block (t:=36) (fr:=(0,0)) (World.alloc_heap_new W _)
  dsimp only[Ga,DV] at hnews ⊢
  gi_wp2_with (first
   | (gi_at_builtin;refine wpListIn_append_own _ rfl _ _ 43 rfl w.heap.size 36 i0 _ 10 112 Tryz.underlying43 hi hz0 hz1 hz2 rfl (by decide) _ _ _ rfl (hrow.alloc _) ⟨W.heap.size,0,none⟩ 1 1 (GN ⟨x0,x1,x2,x3,x4,x5,x6,x7,x8,x9,x10,x11⟩) rfl rfl hnews (VF ⟨x0,x1,x2,x3,x4,x5,x6,x7,x8,x9,x10,x11⟩) (by omega) (by omega) (by have:=hB.size;simp;omega) ?_;intro v' w1 hown' hgrow _;obtain⟨g',cap',rfl⟩:=ownsRow_succ hown';obtain⟨hv1,hv2,hr2,hk2,hb2⟩:=hv.appended (by decide) hrow hB.size (Nat.le_refl _) hown' hgrow;have hc2:=hv1.cell;have hf2:=hv1.frozen)
   | gi_in)
  exact M190
 case done=>
  exact M92
 case stop=>
  rintro D c pre W _ _ h _
  exact h.elim
end Hi
end Go.Proofs.YtaahfiopdoinkaaGreat
