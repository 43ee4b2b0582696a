/- LevelMatches of what came in. -/
import Derived.Test.YtkjlfoihojfnbaaDoorLoY
import Derived.Test.YtkjlfoihojfnbaaDoorRows
import Derived.Lib.LaidTab
import Derived.LaidSub
namespace Go.Proofs.YtkjlfoihojfnbaaDoor
open Go.RowKit
set_option linter.unusedVariables false
set_option linter.unusedSimpArgs false
namespace Lo
open Lv (W64 slotOf slotOf_lt fresh ret_int ret_bool new_any alive_any)
def debI : List Int := [0, 1, 56, 2, 57, 49, 28, 3, 61, 58, 42, 50, 38, 29, 17, 4, 62, 47, 59, 36, 45, 43, 51, 22, 53, 39, 33, 30, 24, 18, 12, 5, 63, 55, 48, 27, 60, 41, 37, 16, 46, 35, 44, 21, 52, 32, 23, 11, 54, 26, 40, 15, 34, 20, 31, 10, 25, 14, 19, 9, 13, 8, 7, 6]
theorem deb_of_laid {l : List (String × DataW Unit)} {W : World}
    (h2 : ((l.filter fun x => x.2.handleName?.isNone).filter fun x => x.1 == "math/bits.deBruijn64tab") = [("math/bits.deBruijn64tab", Lib.tabData .u8 debI)])
    (h : laidMetH Tryd.prog l W) : Deb W := by
  obtain ⟨hm, -⟩ := laidMetH_iff.1 h
  have k2 := hm.filter (fun x => x.1 == "math/bits.deBruijn64tab")
  rw [h2] at k2
  have t2 := Lib.tabIs_of_head (g := 0) (t := 106) (e := 5) (n := 64) (by kernel_rfl) (by kernel_rfl) Tryd.underlying106 Tryd.underlying5 (by kernel_rfl) (by kernel_rfl) k2
  have hc : ∀ j, j < 64 → W.cell? ⟨0, j, none⟩ = some (.int .u8 (debI.getD j 0)) := fun j hj => Lib.TabIs.cell t2 (g := 0) (by kernel_rfl) j hj
  have he : ∀ j, j < 64 → ((Lib.deBruijn64tab.getD j 0 : Nat) : Int) = debI.getD j 0 := by decide +kernel
  refine ⟨fun j hj => ?_, ?_⟩
  · have hj' : j < 64 := hj
    rw [hc j hj', he j hj']
  · have c2 := hc 0 (by omega)
    rcases Nat.lt_or_ge 0 W.heap.size with h' | h'
    · exact h'
    · simp [World.cell?, Array.getElem?_eq_none h'] at c2
set_option maxRecDepth 100000 in
set_option maxHeartbeats 8000000 in
theorem matches_long (n : Nat) (hn : n < 256) (A : Option Addr) (cap : Nat) (len : Nat) (w : World) (hm : len ≤ 9223372036854775807) (hlen : 100 < len) :
    Calls Tryd.prog 3 #[.int .u8 n, .slice A len cap] w fun e w' => e = .returned (.bool true) ∧ Below w.heap.size w w' := by
  obtain ⟨k, hk⟩ : ∃ k : Nat, k = n % 4 := ⟨_, rfl⟩
  have hk3 : k ≤ 3 := by omega
  have hkI : (n : Int) % 4 = (k : Nat) := by omega
  have HKI := Lib.hid hkI
  have HN := Lib.hid (new_any k hk3 w)
  have HA := Lib.hid alive_any
  have hlen' : (100 : Int) < len := by omega
  have hm' : (len : Int) ≤ 9223372036854775807 := by omega
  have hn0 : (0 : Int) ≤ n := by omega
  have hn1 : (n : Int) < 256 := by omega
  obtain ⟨W0, hW0⟩ : ∃ W0, W0 = w.alloc (.cells (fresh k) 74) := ⟨_, rfl⟩
  have HB0 : Hid (Below w.heap.size w W0) := Lib.hid (by rw [hW0]; exact (Below.refl _ _).alloc (Nat.le_refl _) _)
  rw [← hW0] at HN
  clear hW0 hk hn hkI
  go_enter Tryd.func3, Tryd.ntmps3
  go_wp2_with fail
  rw [HKI.out]
  refine HN.out.mono ?_
  rintro e w1 ⟨rfl, rfl⟩
  go_wp2_with fail
  refine (HA.out _).mono ?_
  rintro e w2 ⟨rfl, hb⟩
  have HB := Lib.hid (HB0.out.trans (hb.mono HB0.out.size))
  clear hb
  go_wp2_with fail
  go_ret
  exact ⟨rfl, HB.out⟩
set_option maxRecDepth 100000 in
open Go.ChangeShapes Go.WideShapes Go.ChangeAt Go.ChangeMaps in
theorem matches_open {H : Type} {enc : TypeId × Value → H} {base b1 : Nat} {spare : Nat → Bool} {held : Bool} {d0 d1 : DataW H} {p0 p1 : List MemPlace} (v0 v1 : Value) (W : World)
    (o0 : Value.okWide Tryd.prog W .any base 5 v0) (k0 : DataW.Trod enc Tryd.prog W b1 spare held 5 v0 d0 p0)
    (o1 : Value.okWide Tryd.prog W .any base 22 v1) (k1 : DataW.Trod enc Tryd.prog W b1 spare held 22 v1 d1 p1) (hL : laidMetH Tryd.prog Rows.levelMatchesRow.laid W) :
    Calls Tryd.prog 3 #[v0, v1] W fun e w' => e = .returned (.bool true) ∧ Below W.heap.size W w' := by
  obtain ⟨n, rfl, rfl, rfl, w0⟩ := open_int Tryd.underlying5 o0 k0
  obtain ⟨l, A, cap, rfl, hin, hm⟩ := lops_open v1 W o1 k1
  simp [Lit.wf, IntKind.min, IntKind.max, IntKind.bits, IntKind.signed] at w0
  obtain ⟨m, rfl⟩ : ∃ m : Nat, n = m := ⟨n.toNat, by omega⟩
  have hd : Deb W := deb_of_laid (by kernel_rfl) hL
  by_cases h : l.length ≤ 100
  · exact matches_walk m (by omega) A cap l W hin h hd
  · exact matches_long m (by omega) A cap l.length W hm (by omega)
end Lo
end Go.Proofs.YtkjlfoihojfnbaaDoor
