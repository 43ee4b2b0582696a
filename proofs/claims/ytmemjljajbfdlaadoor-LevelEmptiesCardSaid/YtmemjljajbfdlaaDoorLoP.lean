/- LevelEmpties of what came in. -/
import Derived.Test.YtmemjljajbfdlaaDoorLoN
import Derived.Test.YtmemjljajbfdlaaDoorLoK
namespace Go.Proofs.YtmemjljajbfdlaaDoor
open Go.RowKit
set_option linter.unusedVariables false
set_option linter.unusedSimpArgs false
namespace Lo
open Lv (W64 slotOf slotOf_lt fresh ret_int ret_bool new_any alive_any)
set_option maxRecDepth 100000 in
set_option maxHeartbeats 8000000 in
theorem empties_long (n : Nat) (hn : n < 256) (A : Option Addr) (cap : Nat) (len : Nat) (w : World) (hm : len ≤ 9223372036854775807) (hlen : 100 < len) :
    Calls Tryd.prog 3 #[.int .u8 n, .slice A len cap] w fun e w' => e = .returned (.bool true) ∧ Below w.heap.size w w' := by
  obtain ⟨k, hk⟩ : ∃ k : Nat, k = n % 4 := ⟨_, rfl⟩
  have hk3 : k ≤ 3 := by omega
  have hkI : (n : Int) % 4 = (k : Nat) := by omega
  have HKI := Lib.hid hkI
  have HN := Lib.hid (new_any k hk3 w)
  have HA := Lib.hid alive_any
  have hlen' : (100 : Int) < len := by omega
  have hm' : (len : Int) ≤ 9223372036854775807 := by omega
  have hn0 : (0 : Int) ≤ n := by omega
  have hn1 : (n : Int) < 256 := by omega
  obtain ⟨W0, hW0⟩ : ∃ W0, W0 = w.alloc (.cells (fresh k) 52) := ⟨_, rfl⟩
  have HB0 : Hid (Below w.heap.size w W0) := Lib.hid (by rw [hW0]; exact (Below.refl _ _).alloc (Nat.le_refl _) _)
  rw [← hW0] at HN
  clear hW0 hk hn hkI
  go_enter Tryd.func3, Tryd.ntmps3
  go_wp2_with fail
  rw [HKI.out]
  refine HN.out.mono ?_
  rintro e w1 ⟨rfl, rfl⟩
  go_wp2_with fail
  refine (HA.out _).mono ?_
  rintro e w2 ⟨rfl, hb⟩
  have HB := Lib.hid (HB0.out.trans (hb.mono HB0.out.size))
  clear hb
  go_wp2_with fail
  go_ret
  exact ⟨rfl, HB.out⟩
set_option maxRecDepth 100000 in
open Go.ChangeShapes Go.WideShapes Go.ChangeAt Go.ChangeMaps in
theorem empties_open {H : Type} {enc : TypeId × Value → H} {base b1 : Nat} {spare : Nat → Bool} {held : Bool} {d0 d1 : DataW H} {p0 p1 : List MemPlace} (v0 v1 : Value) (W : World)
    (o0 : Value.okWide Tryd.prog W .any base 5 v0) (k0 : DataW.Trod enc Tryd.prog W b1 spare held 5 v0 d0 p0)
    (o1 : Value.okWide Tryd.prog W .any base 22 v1) (k1 : DataW.Trod enc Tryd.prog W b1 spare held 22 v1 d1 p1) :
    Calls Tryd.prog 3 #[v0, v1] W fun e w' => e = .returned (.bool true) ∧ Below W.heap.size W w' := by
  obtain ⟨n, rfl, rfl, rfl, w0⟩ := open_int Tryd.underlying5 o0 k0
  obtain ⟨l, A, cap, rfl, hin, hm⟩ := items_open v1 W o1 k1
  simp [Lit.wf, IntKind.min, IntKind.max, IntKind.bits, IntKind.signed] at w0
  obtain ⟨m, rfl⟩ : ∃ m : Nat, n = m := ⟨n.toNat, by omega⟩
  by_cases h : l.length ≤ 100
  · exact empties_walk m (by omega) A cap l W hin h
  · exact empties_long m (by omega) A cap l.length W hm (by omega)
end Lo
end Go.Proofs.YtmemjljajbfdlaaDoor
