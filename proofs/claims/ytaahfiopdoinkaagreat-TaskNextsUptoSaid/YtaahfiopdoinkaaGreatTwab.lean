/- Contracts of the order of items: cmp.Compare at uint64, cmp.Or at int, level's compare and Compare, the reference's order and Compare. -/
import Derived.Test.YtaahfiopdoinkaaGreatTwaa
import Derived.Deep.RegionHeld3
import Derived.RegionTactic
variable {p : Prop}
set_option linter.unusedVariables false
open Go.RowKit
namespace Go.Proofs.YtaahfiopdoinkaaGreat
namespace Lv
def DZ (a b:Nat):Int:=if a<b then -1 else if b<a then 1 else 0
theorem Sh (a b:Nat)(w:World):Calls Tryz.prog 54 #[.int .u64 a,.int .u64 b] w fun e w'=>e= .returned (.int .i64 (DZ a b))/\w=w':=by
 by_cases h:(a:Int)<b
 ·go_enter Tryz.func54, Tryz.ntmps54
  go_wp2
  go_ret
  exact⟨Dk (by unfold DZ;rw[if_pos O0]),rfl⟩
 ·by_cases h2 : (b : Int) < a
  ·go_enter Tryz.func54, Tryz.ntmps54
   go_wp2
   go_ret
   exact⟨Dk (by unfold DZ;rw[if_neg O0,if_pos O0]),rfl⟩
  ·go_enter Tryz.func54, Tryz.ntmps54
   go_wp2
   go_ret
   exact⟨Dk (by unfold DZ;rw[if_neg O0,if_neg O0]),rfl⟩
end Lv
namespace Ta
set_option maxRecDepth 100000 in
set_option maxHeartbeats 1000000 in
theorem Nu (n:Nat)(h:n<=1)(w:World):Calls Tryz.prog 92 #[.int .u64 n] w fun e w'=>(∃v,e= .returned (.int .i64 v))/\w'=w:=by
 have H64:Hid (∀w,Calls Tryz.prog 130 #[.int .u64 n] w fun e w'=>(∃v,e= .returned (.int .i64 v))/\w'=w):=U fun w=>by
  rcases (by omega:n=0\/n=1) with rfl|rfl
  all_goals
   go_enter Tryz.func130,Tryz.ntmps130
   go_wp2_with fail
   go_ret
   exact⟨⟨_,rfl⟩,rfl⟩
 go_enter Tryz.func92,Tryz.ntmps92
 go_wp2_with fail
 refine(H64.out _).mono ?_
 rintro e w1 ⟨⟨v,rfl⟩,rfl⟩
 go_wp2_with fail
 go_ret
 exact⟨⟨_,rfl⟩,rfl⟩
theorem M188 (h:p:=by
 go_wp2_with fail
 refine bodyPost_end (results_none rfl _ _ _) rfl ?_
 exact⟨⟨_,rfl⟩,rfl⟩):p:=h
theorem Nx (A:Option Addr)(n cap:Nat)(h:n<=1)(cv:Value)(w:World):Calls Tryz.prog 121 #[.slice A n cap,.int .i64 0,.int .i64 n,cv] w fun e w'=>(∃v,e= .returned v)/\w'=w:=by
 have h0:(n:Int)<=1:=O0
 go_enter Tryz.func121,Tryz.ntmps121
 go_wp2_with fail
 go_loop [8] (fun i=>i= .int .i64 1) (fun _=>0)
 case atStart=>rfl
 case round=>
  obtain rfl:=hrel
  exact M188
theorem pdq_small (A:Option Addr)(n cap:Nat)(l:Int)(h:n<=1)(cv:Value)(w:World):Calls Tryz.prog 91 #[.slice A n cap,.int .i64 0,.int .i64 n,.int .i64 l,cv] w fun e w'=>(∃v,e= .returned v)/\w'=w:=by
 have HI:=U fun w=>Nx A n cap h cv w
 have h0:(n:Int)<=12:=O0
 have h1:(0:Int)<=n:=O0
 go_enter Tryz.func91,Tryz.ntmps91
 go_wp2_with fail
 go_loop [1,2] (fun x y=>x= .int .i64 0/\y= .int .i64 n) (fun _ _=>0)
 case atStart=>exact⟨rfl,rfl⟩
 case round=>
  obtain⟨rfl,rfl⟩:=hrel
  go_wp2_with fail
  refine(HI.out _).mono ?_
  rintro e w1 ⟨⟨v,rfl⟩,rfl⟩
  go_wp2_with fail
  refine bodyPost_ret (results_none rfl _ _ _) rfl ?_
  exact⟨⟨_,rfl⟩,rfl⟩
theorem JJ (A:Option Addr)(n cap:Nat)(h:n<=1)(cv:Value)(w:World):Calls Tryz.prog 60 #[.slice A n cap,cv] w fun e w'=>(∃v,e= .returned v)/\w'=w:=by
 have HP:=U fun l w=>pdq_small A n cap l h cv w
 have HL:=U fun w=>Nu n h w
 have h0:IntKind.u64.wrap (n:Int)=n:=by rcases (by omega:n=0\/n=1) with rfl|rfl<;>rfl
 go_enter Tryz.func60,Tryz.ntmps60
 go_wp2_with fail
 refine(HL.out _).mono ?_
 rintro e w1 ⟨⟨v,rfl⟩,rfl⟩
 go_wp2_with fail
 refine(HP.out _ _).mono ?_
 rintro e w1 ⟨⟨v,rfl⟩,rfl⟩
 exact M188
end Ta
end Go.Proofs.YtaahfiopdoinkaaGreat
