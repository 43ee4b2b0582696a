/- What makes references of tasks and timers: the two closures. -/
import Derived.Test.YtaahfiopdoinkaaGreatTwab
import Derived.Test.YtaahfiopdoinkaaGreatTwad
import Derived.Deep.CutRange
set_option maxRecDepth 100000
variable {p : Prop}
set_option linter.unusedVariables false
set_option linter.unusedSimpArgs false
open Go.RowKit
namespace Go.Proofs.YtaahfiopdoinkaaGreat
namespace Ta
open Lv (Dk)
open Vt (Da)
theorem M89 (h:p:=by
 exact⟨O3,Da (Rl.alloc O3 _)⟩):p:=h
theorem M191 (h:p:=by
 simp[results,Tryz.results58,go_sem]):p:=h
set_option maxHeartbeats 2000000 in
theorem LM (id ta:Nat)(nm:ByteArray)(k n:Int)(f:Nat)(s:ByteArray)(A:Option Addr)(m c:Nat)(tn:Int)(tf:Bool)(h1:0<=tn)(h2:tn<=2147483647)(fb nb:Nat)(fl:Bool)(now:Nat)(w:World)(hf:w.cell? ⟨fb,0,none⟩=some (.bool fl))(hn:w.cell? ⟨nb,0,none⟩=some (.int .u64 (now:Nat)))(hfb:fb<w.heap.size)(hnb:nb<w.heap.size) :
  Calls Tryz.prog 58 #[.agg #[.int .u64 (id:Nat),.string nm,.int .i64 k,.int .i64 n,.float .f64 f,.string s,.slice A m c,.int .i64 tn,.bool tf,.int .u64 (ta:Nat)],.pointer (some ⟨fb,0,none⟩),.pointer (some ⟨nb,0,none⟩)] w fun r w'=>
   r= .returned (.tuple #[.agg #[.string ⟨#[]⟩,.int .u64 (id:Nat),.int .i64 (if tf=true then tn else tn+1),.int .u64 (ta:Nat)],.bool (decide (tf=fl/\ta<=now))])/\Below w.heap.size w w':=by
 go_enter Tryz.func58,Tryz.ntmps58
 by_cases hfl:fl=tf
 ·subst hfl
  cases fl
  ·go_upto_region 4 with fail
   go_region
   go_wp2_with fail
   (try simp only[Exit.inBlock,Exit.then])
   refine bodyPost_ret (v:= .tuple #[.agg #[.string ⟨#[]⟩,.int .u64 (id:Nat),.int .i64 (tn+1),.int .u64 (ta:Nat)],.bool (decide (ta<=now))]) ?_ rfl ?_
   ·exact M191
   ·exact M89
  ·go_upto_region 4 with fail
   go_region
   go_wp2_with fail
   (try simp only[Exit.inBlock,Exit.then])
   refine bodyPost_ret (v:= .tuple #[.agg #[.string ⟨#[]⟩,.int .u64 (id:Nat),.int .i64 tn,.int .u64 (ta:Nat)],.bool (decide (ta<=now))]) ?_ rfl ?_
   ·exact M191
   ·exact M89
 ·obtain rfl : fl = !tf := by cases fl <;> cases tf <;> simp_all
  cases tf
  ·go_upto_region 4 with fail
   go_region
   go_wp2_with fail
   (try simp only[Exit.inBlock,Exit.then])
   refine bodyPost_ret (v:= .tuple #[.agg #[.string ⟨#[]⟩,.int .u64 (id:Nat),.int .i64 (tn+1),.int .u64 (ta:Nat)],.bool false]) ?_ rfl ?_
   ·exact M191
   ·exact M89
  ·go_upto_region 4 with fail
   go_region
   go_wp2_with fail
   (try simp only[Exit.inBlock,Exit.then])
   refine bodyPost_ret (v:= .tuple #[.agg #[.string ⟨#[]⟩,.int .u64 (id:Nat),.int .i64 tn,.int .u64 (ta:Nat)],.bool false]) ?_ rfl ?_
   ·exact M191
   ·exact M89
theorem due1_any (id ta:Nat)(nb:Nat)(now:Nat)(w:World)(hn:w.cell? ⟨nb,0,none⟩=some (.int .u64 (now:Nat)))(hnb:nb<w.heap.size) :
  Calls Tryz.prog 36 #[.agg #[.int .u64 (id:Nat),.int .u64 (ta:Nat)],.pointer (some ⟨nb,0,none⟩)] w fun r w'=>
   r= .returned (.tuple #[.agg #[.string ⟨#[]⟩,.int .u64 (id:Nat),.int .i64 0,.int .u64 (ta:Nat)],.bool (decide (ta<=now))])/\Below w.heap.size w w':=by
 go_enter Tryz.func36,Tryz.ntmps36
 go_wp2_with fail
 go_region
 go_wp2_with fail
 (try simp only[Exit.inBlock,Exit.then])
 refine bodyPost_ret (v:= .tuple #[.agg #[.string ⟨#[]⟩,.int .u64 (id:Nat),.int .i64 0,.int .u64 (ta:Nat)],.bool (decide (ta<=now))]) ?_ rfl ?_
 ·simp[results,Tryz.results36,go_sem]
 ·exact M89
end Ta
end Go.Proofs.YtaahfiopdoinkaaGreat
