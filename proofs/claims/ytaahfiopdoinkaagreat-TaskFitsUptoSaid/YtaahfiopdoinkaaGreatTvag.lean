/- Contracts of the order of items: cmp.Compare at uint64, cmp.Or at int, level's compare and Compare, the reference's order and Compare. -/
import Derived.Test.YtaahfiopdoinkaaGreatTvab
import Derived.Deep.RegionHeld3
import Derived.RegionTactic
import Derived.Deep.CutRange
set_option maxRecDepth 100000
set_option maxHeartbeats 2000000
variable {p : Prop}
set_option linter.unusedVariables false
set_option linter.unusedSimpArgs false
open Go.RowKit
namespace Go.Proofs.YtaahfiopdoinkaaGreat
namespace Lv
def Fp (a b:Nat):Int:=if a<b then -1 else if b<a then 1 else 0
theorem Se (a b:Nat)(w:World):Calls Tryz.prog 54 #[.int .u64 a,.int .u64 b] w fun e w'=>e= .returned (.int .i64 (Fp a b))/\w=w':=by
 by_cases h:(a:Int)<b
 ·go_enter Tryz.func54, Tryz.ntmps54
  go_wp2
  go_ret
  exact⟨Dl (by unfold Fp;rw[if_pos O0]),rfl⟩
 ·by_cases h2 : (b : Int) < a
  ·go_enter Tryz.func54, Tryz.ntmps54
   go_wp2
   go_ret
   exact⟨Dl (by unfold Fp;rw[if_neg O0,if_pos O0]),rfl⟩
  ·go_enter Tryz.func54, Tryz.ntmps54
   go_wp2
   go_ret
   exact⟨Dl (by unfold Fp;rw[if_neg O0,if_neg O0]),rfl⟩
end Lv
namespace Ta
theorem Nx (n:Nat)(h:n<=1)(w:World):Calls Tryz.prog 92 #[.int .u64 n] w fun e w'=>(∃v,e= .returned (.int .i64 v))/\w'=w:=by
 have H64:Hid (∀w,Calls Tryz.prog 130 #[.int .u64 n] w fun e w'=>(∃v,e= .returned (.int .i64 v))/\w'=w):=U fun w=>by
  rcases (by omega:n=0\/n=1) with rfl|rfl
  all_goals
   go_enter Tryz.func130,Tryz.ntmps130
   go_wp2_with fail
   go_ret
   exact⟨⟨_,rfl⟩,rfl⟩
 go_enter Tryz.func92,Tryz.ntmps92
 go_wp2_with fail
 refine(H64.out _).mono ?_
 rintro e w1 ⟨⟨v,rfl⟩,rfl⟩
 go_wp2_with fail
 go_ret
 exact⟨⟨_,rfl⟩,rfl⟩
theorem M186 (h:p:=by
 go_wp2_with fail
 refine bodyPost_end (results_none rfl _ _ _) rfl ?_
 exact⟨⟨_,rfl⟩,rfl⟩):p:=h
theorem NA (A:Option Addr)(n cap:Nat)(h:n<=1)(cv:Value)(w:World):Calls Tryz.prog 121 #[.slice A n cap,.int .i64 0,.int .i64 n,cv] w fun e w'=>(∃v,e= .returned v)/\w'=w:=by
 have h0:(n:Int)<=1:=O0
 go_enter Tryz.func121,Tryz.ntmps121
 go_wp2_with fail
 go_loop [8] (fun i=>i= .int .i64 1) (fun _=>0)
 case atStart=>rfl
 case round=>
  obtain rfl:=hrel
  exact M186
theorem pdq_small (A:Option Addr)(n cap:Nat)(l:Int)(h:n<=1)(cv:Value)(w:World):Calls Tryz.prog 91 #[.slice A n cap,.int .i64 0,.int .i64 n,.int .i64 l,cv] w fun e w'=>(∃v,e= .returned v)/\w'=w:=by
 have HI:=U fun w=>NA A n cap h cv w
 have h0:(n:Int)<=12:=O0
 have h1:(0:Int)<=n:=O0
 go_enter Tryz.func91,Tryz.ntmps91
 go_wp2_with fail
 go_loop [1,2] (fun x y=>x= .int .i64 0/\y= .int .i64 n) (fun _ _=>0)
 case atStart=>exact⟨rfl,rfl⟩
 case round=>
  obtain⟨rfl,rfl⟩:=hrel
  go_wp2_with fail
  refine(HI.out _).mono ?_
  rintro e w1 ⟨⟨v,rfl⟩,rfl⟩
  go_wp2_with fail
  refine bodyPost_ret (results_none rfl _ _ _) rfl ?_
  exact⟨⟨_,rfl⟩,rfl⟩
theorem Jz (A:Option Addr)(n cap:Nat)(h:n<=1)(cv:Value)(w:World):Calls Tryz.prog 60 #[.slice A n cap,cv] w fun e w'=>(∃v,e= .returned v)/\w'=w:=by
 have HP:=U fun l w=>pdq_small A n cap l h cv w
 have HL:=U fun w=>Nx n h w
 have h0:IntKind.u64.wrap (n:Int)=n:=by rcases (by omega:n=0\/n=1) with rfl|rfl<;>rfl
 go_enter Tryz.func60,Tryz.ntmps60
 go_wp2_with fail
 refine(HL.out _).mono ?_
 rintro e w1 ⟨⟨v,rfl⟩,rfl⟩
 go_wp2_with fail
 refine(HP.out _ _).mono ?_
 rintro e w1 ⟨⟨v,rfl⟩,rfl⟩
 exact M186
open Lv (Dl)
open Vt (Da)
theorem M85 (h:p:=by
 exact⟨O3,Da (Ru.alloc O3 _)⟩):p:=h
theorem M188 (h:p:=by
 simp[results,Tryz.results58,go_sem]):p:=h
theorem LM (id ta:Nat)(nm:ByteArray)(k n:Int)(f:Nat)(s:ByteArray)(A:Option Addr)(m c:Nat)(tn:Int)(tf:Bool)(h1:0<=tn)(h2:tn<=2147483647)(fb nb:Nat)(fl:Bool)(now:Nat)(w:World)(hf:w.cell? ⟨fb,0,none⟩=some (.bool fl))(hn:w.cell? ⟨nb,0,none⟩=some (.int .u64 (now:Nat)))(hfb:fb<w.heap.size)(hnb:nb<w.heap.size) :
  Calls Tryz.prog 58 #[.agg #[.int .u64 (id:Nat),.string nm,.int .i64 k,.int .i64 n,.float .f64 f,.string s,.slice A m c,.int .i64 tn,.bool tf,.int .u64 (ta:Nat)],.pointer (some ⟨fb,0,none⟩),.pointer (some ⟨nb,0,none⟩)] w fun r w'=>
   r= .returned (.tuple #[.agg #[.string ⟨#[]⟩,.int .u64 (id:Nat),.int .i64 (if tf=true then tn else tn+1),.int .u64 (ta:Nat)],.bool (decide (tf=fl/\ta<=now))])/\Below w.heap.size w w':=by
 go_enter Tryz.func58,Tryz.ntmps58
 by_cases hfl:fl=tf
 ·subst hfl
  cases fl
  ·go_upto_region 4 with fail
   go_region
   go_wp2_with fail
   (try simp only[Exit.inBlock,Exit.then])
   refine bodyPost_ret (v:= .tuple #[.agg #[.string ⟨#[]⟩,.int .u64 (id:Nat),.int .i64 (tn+1),.int .u64 (ta:Nat)],.bool (decide (ta<=now))]) ?_ rfl ?_
   ·exact M188
   ·exact M85
  ·go_upto_region 4 with fail
   go_region
   go_wp2_with fail
   (try simp only[Exit.inBlock,Exit.then])
   refine bodyPost_ret (v:= .tuple #[.agg #[.string ⟨#[]⟩,.int .u64 (id:Nat),.int .i64 tn,.int .u64 (ta:Nat)],.bool (decide (ta<=now))]) ?_ rfl ?_
   ·exact M188
   ·exact M85
 ·obtain rfl : fl = !tf := by cases fl <;> cases tf <;> simp_all
  cases tf
  ·go_upto_region 4 with fail
   go_region
   go_wp2_with fail
   (try simp only[Exit.inBlock,Exit.then])
   refine bodyPost_ret (v:= .tuple #[.agg #[.string ⟨#[]⟩,.int .u64 (id:Nat),.int .i64 (tn+1),.int .u64 (ta:Nat)],.bool false]) ?_ rfl ?_
   ·exact M188
   ·exact M85
  ·go_upto_region 4 with fail
   go_region
   go_wp2_with fail
   (try simp only[Exit.inBlock,Exit.then])
   refine bodyPost_ret (v:= .tuple #[.agg #[.string ⟨#[]⟩,.int .u64 (id:Nat),.int .i64 tn,.int .u64 (ta:Nat)],.bool false]) ?_ rfl ?_
   ·exact M188
   ·exact M85
theorem due1_any (id ta:Nat)(nb:Nat)(now:Nat)(w:World)(hn:w.cell? ⟨nb,0,none⟩=some (.int .u64 (now:Nat)))(hnb:nb<w.heap.size) :
  Calls Tryz.prog 36 #[.agg #[.int .u64 (id:Nat),.int .u64 (ta:Nat)],.pointer (some ⟨nb,0,none⟩)] w fun r w'=>
   r= .returned (.tuple #[.agg #[.string ⟨#[]⟩,.int .u64 (id:Nat),.int .i64 0,.int .u64 (ta:Nat)],.bool (decide (ta<=now))])/\Below w.heap.size w w':=by
 go_enter Tryz.func36,Tryz.ntmps36
 go_wp2_with fail
 go_region
 go_wp2_with fail
 (try simp only[Exit.inBlock,Exit.then])
 refine bodyPost_ret (v:= .tuple #[.agg #[.string ⟨#[]⟩,.int .u64 (id:Nat),.int .i64 0,.int .u64 (ta:Nat)],.bool (decide (ta<=now))]) ?_ rfl ?_
 ·simp[results,Tryz.results36,go_sem]
 ·exact M85
end Ta
end Go.Proofs.YtaahfiopdoinkaaGreat
