/- WheelFar of what came in. -/
import Derived.Test.YtkjlfoihojfnbaaDoorWhS
import Derived.Test.YtkjlfoihojfnbaaDoorWhDb
namespace Go.Proofs.YtkjlfoihojfnbaaDoor
open Go.RowKit
set_option linter.unusedVariables false
set_option linter.unusedSimpArgs false
namespace Wh
open Lo (Deb)
set_option maxRecDepth 100000 in
set_option maxHeartbeats 8000000 in
theorem far_long (n0 : Nat) (hn : n0 < 18446744073709551616) (A : Option Addr) (cap len : Nat) (w : World) (hm : len ≤ 9223372036854775807) (hlen : 60 < len) (hd : Deb w) :
    Calls Tryd.prog 4 #[.int .u64 (n0 : Nat), .slice A len cap] w fun e w' => e = .returned (.bool true) ∧ Below w.heap.size w w' := by
  have HA := Lib.hid (walive_any w hd)
  have hlen' : (60 : Int) < len := by omega
  have hm' : (len : Int) ≤ 9223372036854775807 := by omega
  clear hd hn
  go_enter Tryd.func4, Tryd.ntmps4
  go_wp2_with fail
  refine HA.out.mono ?_
  rintro e w2 ⟨rfl, hb⟩
  have HB := Lib.hid hb
  clear hb
  go_wp2_with fail
  go_ret
  exact ⟨rfl, HB.out⟩
set_option maxRecDepth 100000 in
open Go.ChangeShapes Go.WideShapes Go.ChangeAt Go.ChangeMaps in
theorem far_open {H : Type} {enc : TypeId × Value → H} {base b1 : Nat} {spare : Nat → Bool} {held : Bool} {d0 d1 : DataW H} {p0 p1 : List MemPlace} (v0 v1 : Value) (W : World)
    (o0 : Value.okWide Tryd.prog W .any base 27 v0) (k0 : DataW.Trod enc Tryd.prog W b1 spare held 27 v0 d0 p0)
    (o1 : Value.okWide Tryd.prog W .any base 45 v1) (k1 : DataW.Trod enc Tryd.prog W b1 spare held 45 v1 d1 p1) (hL : laidMetH Tryd.prog Rows.wheelFarRow.laid W) :
    Calls Tryd.prog 4 #[v0, v1] W fun e w' => e = .returned (.bool true) ∧ Below W.heap.size W w' := by
  obtain ⟨n, rfl, rfl, rfl, w0⟩ := open_int Tryd.underlying27 o0 k0
  obtain ⟨l, A, cap, rfl, hin, hm⟩ := ticks_open v1 W o1 k1
  simp [Lit.wf, IntKind.min, IntKind.max, IntKind.bits, IntKind.signed] at w0
  obtain ⟨m, rfl⟩ : ∃ m : Nat, n = m := ⟨n.toNat, by omega⟩
  have hd : Deb W := deb_of_laid (by kernel_rfl) hL
  by_cases h : l.length ≤ 60
  · exact far_walk m (by omega) A cap l W hin h hd
  · exact far_long m (by omega) A cap l.length W hm (by omega) hd
end Wh
end Go.Proofs.YtkjlfoihojfnbaaDoor
