/- The iterator of a number's bytes (bin.digits$1), walked inside the wide fence, for whatever loop body. -/
import Derived.Test.YtaahfiopdoinkaaGreatTwad
import Derived.Test.YtaahfiopdoinkaaGreatTwac
import Derived.OwnWalkIn
import Derived.TacticsInMore
import Derived.LoopNIn
import Derived.LoopIn
import Derived.Laws.EntriesVeiled
set_option linter.unusedVariables false
open Go.RowKit
namespace Go.Proofs.YtaahfiopdoinkaaGreat
namespace Bt
open Nm (Dk De)
attribute [local go_sem] Oper.semAt_some
def ub (y:Nat):Nat:=if y<128 then y else y%128+128
def Dm : Nat -> Nat -> List Nat
 | 0,y=>[y]
 | f+1,y=>if y<128 then [y] else (y%128+128)::Dm f (y/128)
theorem or_all : ∀r:Fin 256,bits BinOp.or IntKind.u8 (r.val:Int) 128=((r.val%128+128:Nat):Int):=by decide+kernel
theorem or_128 (y:Nat)(h:128<=y):bits BinOp.or IntKind.u8 ((y:Int)%256) 128=((ub y:Nat):Int):=by
 have:=or_all ⟨y%256,Nat.mod_lt _ (by omega)⟩
 simp only at this
 rw[show ((y:Int)%256)=((y%256:Nat):Int) from by omega,this,ub,if_neg (by omega)]
 omega
def OwnX (bx y:Nat)(W:World):Prop:=W.cell? ⟨bx,0,none⟩=some (.int .u64 y)/\W.frozen? ⟨bx,0,none⟩=false
theorem Kq (x:Nat)(w:World):Calls Tryz.prog 107 #[.int .u64 x] w fun e w'=>e= .returned (.func (.func 141) #[] #[.pointer (some ⟨w.heap.size,0,none⟩)])/\w.alloc (.cells #[.int .u64 x] 23)=w':=by
 go_enter Tryz.func107,Tryz.ntmps107
 go_wp2_with fail
 go_ret
 exact⟨rfl,rfl⟩
set_option maxHeartbeats 1000000 in
set_option maxRecDepth 100000 in
theorem iter_in (n : Nat) (hn : 3 <= n) (l bx x : Nat) (hx : x < 18446744073709551616) (H I A : Nat × List Nat -> World -> Prop) (B : Code -> World -> Prop) (L : World -> Prop) (L' : Code -> World -> Prop)
  (hH:∀s W,H s W->OwnX bx s.1 W/\s.1<18446744073709551616)
  (hHI:∀s W,H s W->I s W)
  (hA:∀s W,A s W->OwnX bx s.1 W)
  (hAH:∀s W,128<=s.1->A s W->H (s.1/128,s.2++ [ub s.1]) (W.setCell ⟨bx,0,none⟩ (.int .u64 (s.1/128:Nat))))
  (hL:∀W v,L W->L (W.setCell ⟨bx,0,none⟩ v))
  (hY:∀s W,I s W->L W->YieldAt Fence.wide (n-1) Tryz.prog l #[.int .u8 (ub s.1:Nat)] W fun e W'=>(e= .returned (.bool true)/\A s W'/\L W')\/(e= .returned (.bool false)/\∃c,B c W'/\L' c W'))
  (W0:World) (h0:H (x,[]) W0) (hl0:L W0) :
  CallsIn Fence.wide n Tryz.prog 141 #[.func (.yield l) #[] #[],.pointer (some ⟨bx,0,none⟩)] W0 fun e W'=>(∃v,e= .returned v)/\(((∃s,s.1<128/\A s W')/\L W')\/∃c,B c W'/\L' c W'):=by
 refine callsIn_of_wp Tryz.func141 rfl trivial ?_ rfl
 simp only[Tryz.ntmps141,List.size_toArray,List.length_cons,List.length_nil,Nat.reduceAdd,Nat.reduceSub,Array.replicate_succ,Array.replicate_zero,List.push_toArray,List.append_toArray,List.nil_append,List.cons_append]
 gi_wp2
 gi_loopw [12] (fun z W=>∃s:Nat×List Nat,H s W/\L W) (fun _ W=>match W.cell? ⟨bx,0,none⟩ with | some (.int _ v)=>v.toNat|_=>0)
 case atStart=>exact⟨(x,[]),h0,hl0⟩
 case round=>
  obtain⟨s,hh,hl⟩:=hrel
  obtain⟨⟨c1,c2⟩,hlt⟩:=hH s _ hh
  obtain⟨fn,tmps,assign,body,hy,hR⟩:=hY s _ (hHI s _ hh) hl
  obtain⟨y,d⟩:=s
  simp only at c1 hlt
  by_cases hy128:128<=y
  ·have hor := or_128 y hy128
   have hnext:=fun W h=>hAH (y,d) W hy128 h
   simp only at hnext
   have hsh:(y:Int)/128=((y/128:Nat):Int):=by omega
   have HH:=Lib.hid hh
   clear hh hl
   gi_wp2
   refine⟨fun _=>by omega,hR.mono ?_⟩
   rintro e W3 (⟨rfl,ha,hl3⟩|⟨rfl,c,hb,hl3⟩)
   ·obtain ⟨d1, d2⟩ := hA _ _ ha
    simp only at d1
    have HN:=Lib.hid (hnext _ ha)
    have HL3:=Lib.hid (hL _ (.int .u64 (y/128:Nat)) hl3)
    clear ha hl3
    gi_wp2_with fail
    unfold Oper.wpIn
    simp[go_sem]
    rw[hsh]
    gi_wp2_with fail
    unfold Oper.wpIn
    simp[go_sem,d1,d2]
    gi_wp2_with fail
    go_roundw
    case rel=>exact⟨_,HN.out,HL3.out⟩
    case measure=>
     have hs:(W3.setCell ⟨bx,0,none⟩ (.int .u64 ((y:Int)/128))).cell? ⟨bx,0,none⟩=some (.int .u64 ((y:Int)/128)):=World.cell?_setCell_same W3 ⟨bx,0,none⟩ _ d1
     rw[hs,c1]
     simp
     omega
   ·gi_wp2
    refine bodyPost_ret (results_none rfl _ _ _) rfl ?_
    exact⟨⟨_,rfl⟩,.inr ⟨c,hb,hl3⟩⟩
  ·have hub : ub y = y := if_pos (by omega)
   rw[hub] at hy
   have h256:(y:Int)%256=y:=by omega
   clear hh hl
   gi_wp2
   refine⟨fun _=>by omega,hR.mono ?_⟩
   rintro e W3 (⟨rfl,ha,hl3⟩|⟨rfl,c,hb,hl3⟩)
   ·gi_wp2
    go_end0
    exact⟨⟨_,rfl⟩,.inl ⟨⟨_,by show y<128;omega,ha⟩,hl3⟩⟩
   ·gi_wp2
    go_end0
    exact⟨⟨_,rfl⟩,.inr ⟨c,hb,hl3⟩⟩
end Bt
end Go.Proofs.YtaahfiopdoinkaaGreat
