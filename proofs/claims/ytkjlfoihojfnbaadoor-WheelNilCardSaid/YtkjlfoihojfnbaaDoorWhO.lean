/- WheelNil: the walk. -/
import Derived.Test.YtkjlfoihojfnbaaDoorWhN
import Derived.Test.YtkjlfoihojfnbaaDoorLoZ
namespace Go.Proofs.YtkjlfoihojfnbaaDoor
open Go.RowKit
set_option linter.unusedVariables false
set_option linter.unusedSimpArgs false
namespace Wh
open Lo (IRow KB St Own Lies below_drew Deb deb_of_laid)
variable {base b now t : Nat} {w w' w1 : World} {T : List (Nat × Nat)} {S S' : Nat → Prop}
theorem adv_lit (h : Whl base w b 10 T S) : Calls Tryd.prog 28 #[.pointer (some ⟨b, 0, none⟩), .int .u64 9] w fun e w' => e = .returned (.tuple #[.slice none 0 0, .int .i64 12]) ∧ w = w' := adv_back (t := 9) h (by omega) (by omega)
theorem adv_lit2 (h : Whl base w b now T S) : Calls Tryd.prog 28 #[.pointer (some ⟨b, 0, none⟩), .int .u64 9223372036854775808] w fun e w' => e = .returned (.tuple #[.slice none 0 0, .int .i64 2]) ∧ w = w' := adv_out (t := 9223372036854775808) h (by omega) (by omega)
set_option maxRecDepth 100000 in
set_option maxHeartbeats 4000000 in
theorem wheelnil_walk (x : Nat × Nat) (h1 : x.1 < 18446744073709551616) (h2 : x.2 < 18446744073709551616) (w : World) (hd : Deb w) :
    Calls Tryd.prog 7 #[.int .u64 (x.1 : Nat), .int .u64 (x.2 : Nat)] w fun e w' => e = .returned (.bool true) ∧ Below w.heap.size w w' := by
  have HN : Hid (Calls Tryd.prog 24 #[.int .u64 10] w fun e w' => e = .returned (.pointer (some ⟨w.heap.size + 1, 0, none⟩)) ∧ Whl w.heap.size w' (w.heap.size + 1) 10 [] (fun g => w.heap.size ≤ g) ∧ Below w.heap.size w w') := Lib.hid (wnew_any 10 10 (by omega) (by omega) w)
  obtain ⟨n, hn⟩ : ∃ n, n = w.heap.size := ⟨_, rfl⟩
  have HD := Lib.hid hd
  have hgn : 0 < n := by rw [hn]; exact hd.2
  rw [← hn] at HN ⊢
  have HNN := Lib.hid hn
  have HA0 := Lib.hid (fun w => nadv x.2 w)
  have HA1 := Lib.hid nnext
  have HA2 := Lib.hid (fun w => nsched x.1 x.2 w)
  have HA3 := Lib.hid (fun w => ncancel x.1 w)
  have HA4 := Lib.hid nnow
  have HA5 := Lib.hid ncount
  have HA6 := Lib.hid (fun w => nhas x.1 w)
  clear hd hn
  go_enter Tryd.func7, Tryd.ntmps7
  go_wp2_with fail
  refine (HA0.out _).mono ?_
  rintro e w1 ⟨rfl, rfl⟩
  go_wp2_with fail
  refine (HA1.out _).mono ?_
  rintro e w1 ⟨rfl, rfl⟩
  go_wp2_with fail
  refine HN.out.mono ?_
  rintro e w1 ⟨rfl, g1, hb1⟩
  have hz1 : n ≤ w1.heap.size := by rw [HNN.out]; exact hb1.size
  have G1 := Lib.hid g1
  have HB1 := Lib.hid hb1
  clear g1 hb1
  go_wp2_with fail
  refine (HA2.out _).mono ?_
  rintro e w2 ⟨rfl, rfl⟩
  go_wp2_with fail
  refine (HA3.out _).mono ?_
  rintro e w2 ⟨rfl, rfl⟩
  go_wp2_with fail
  refine (HA4.out _).mono ?_
  rintro e w2 ⟨rfl, rfl⟩
  go_wp2_with fail
  refine (HA5.out _).mono ?_
  rintro e w2 ⟨rfl, rfl⟩
  go_wp2_with fail
  refine (HA6.out _).mono ?_
  rintro e w2 ⟨rfl, rfl⟩
  by_cases ha : 9223372036854775807 < x.2
  · have ha' : (9223372036854775807 : Int) < x.2 := by omega
    have HS := Lib.hid (sched_out x.1 x.2 G1.out h1 h2 ha)
    have HL1 := Lib.hid (adv_lit G1.out)
    have HL2 := Lib.hid (adv_lit2 G1.out)
    have HCT := Lib.hid (wcount_any G1.out)
    clear ha
    go_wp2_with fail
    refine HS.out.mono ?_
    rintro e w3 ⟨rfl, rfl⟩
    go_wp2_with fail
    refine HS.out.mono ?_
    rintro e w3 ⟨rfl, rfl⟩
    go_wp2_with fail
    refine HL1.out.mono ?_
    rintro e w3 ⟨rfl, rfl⟩
    go_wp2_with fail
    refine HL2.out.mono ?_
    rintro e w3 ⟨rfl, rfl⟩
    go_wp2_with fail
    have HAL := fun w hd => walive_any w hd
    refine (walive_any _ (deb_ge HD.out hgn HB1.out (by rw [HNN.out]; exact Nat.le_refl _))).mono ?_
    rintro e w4 ⟨rfl, hb4⟩
    have HB4 := Lib.hid (HB1.out.trans (hb4.mono hz1))
    have HCT4 := Lib.hid (wcount_any (G1.out.later hb4))
    clear hb4 HAL
    go_wp2_with fail
    refine HCT4.out.mono ?_
    rintro e w5 ⟨rfl, rfl⟩
    go_wp2_with fail
    go_ret
    exact ⟨rfl, HB4.out⟩
  · have ha' : ¬ ((9223372036854775807 : Int) < x.2) := by omega
    have HS := Lib.hid (sched_ok x G1.out h1 (by omega) rfl hz1 (by simp))
    go_wp2_with fail
    refine HS.out.mono ?_
    rintro e w3 ⟨rfl, g3, kb3⟩
    rw [ins1] at g3
    have hb3 := kb_ge kb3 (fun g e => e) hz1
    have hz3 : n ≤ w3.heap.size := Nat.le_trans hz1 hb3.size
    have HB3 := Lib.hid (HB1.out.trans hb3)
    have HS2 := Lib.hid (sched_twice x.1 x.2 g3 h1 (by omega) ((hasId_iff _ _).2 ⟨x, by simp, rfl⟩))
    have G3 := Lib.hid g3
    clear g3 kb3 hb3 ha
    go_wp2_with fail
    refine HS2.out.mono ?_
    rintro e w4 ⟨rfl, hb4⟩
    have HB4 := Lib.hid (HB3.out.trans (hb4.mono hz3))
    have hz4 : n ≤ w4.heap.size := Nat.le_trans hz3 hb4.size
    have G4 := Lib.hid (G3.out.later hb4)
    have HL1 := Lib.hid (adv_lit G4.out)
    have HL2 := Lib.hid (adv_lit2 G4.out)
    clear hb4
    go_wp2_with fail
    refine HL1.out.mono ?_
    rintro e w5 ⟨rfl, rfl⟩
    go_wp2_with fail
    refine HL2.out.mono ?_
    rintro e w5 ⟨rfl, rfl⟩
    go_wp2_with fail
    refine (walive_any _ (deb_ge HD.out hgn HB4.out (by rw [HNN.out]; exact Nat.le_refl _))).mono ?_
    rintro e w6 ⟨rfl, hb6⟩
    have HB6 := Lib.hid (HB4.out.trans (hb6.mono hz4))
    have HCT6 : Hid (Calls Tryd.prog 30 #[.pointer (some ⟨n + 1, 0, none⟩)] w6 fun e w' => e = .returned (.int .i64 1) ∧ w6 = w') := Lib.hid (wcount_any (G4.out.later hb6))
    have HNW6 : Hid (Calls Tryd.prog 32 #[.pointer (some ⟨n + 1, 0, none⟩)] w6 fun e w' => e = .returned (.int .u64 10) ∧ w6 = w') := Lib.hid (now_any (G4.out.later hb6))
    clear hb6
    go_wp2_with fail
    refine HCT6.out.mono ?_
    rintro e w7 ⟨rfl, rfl⟩
    go_wp2_with fail
    refine HNW6.out.mono ?_
    rintro e w7 ⟨rfl, rfl⟩
    go_wp2_with fail
    go_ret
    exact ⟨rfl, HB6.out⟩
set_option maxRecDepth 100000 in
open Go.ChangeShapes Go.WideShapes Go.ChangeAt Go.ChangeMaps in
theorem wheelnil_open {H : Type} {enc : TypeId × Value → H} {base b1 : Nat} {spare : Nat → Bool} {held : Bool} {d0 d1 : DataW H} {p0 p1 : List MemPlace} (v0 v1 : Value) (W : World)
    (o0 : Value.okWide Tryd.prog W .any base 27 v0) (k0 : DataW.Trod enc Tryd.prog W b1 spare held 27 v0 d0 p0)
    (o1 : Value.okWide Tryd.prog W .any base 27 v1) (k1 : DataW.Trod enc Tryd.prog W b1 spare held 27 v1 d1 p1) (hL : laidMetH Tryd.prog Rows.wheelNilRow.laid W) :
    Calls Tryd.prog 7 #[v0, v1] W fun e w' => e = .returned (.bool true) ∧ Below W.heap.size W w' := by
  obtain ⟨i, rfl, rfl, rfl, w0⟩ := open_int Tryd.underlying27 o0 k0
  obtain ⟨j, rfl, rfl, rfl, w1⟩ := open_int Tryd.underlying27 o1 k1
  simp [Lit.wf, IntKind.min, IntKind.max, IntKind.bits, IntKind.signed] at w0 w1
  obtain ⟨m, rfl⟩ : ∃ m : Nat, i = m := ⟨i.toNat, by omega⟩
  obtain ⟨k, rfl⟩ : ∃ m : Nat, j = m := ⟨j.toNat, by omega⟩
  exact wheelnil_walk (m, k) (by show m < _; omega) (by show k < _; omega) W (deb_of_laid (by kernel_rfl) hL)
end Wh
end Go.Proofs.YtkjlfoihojfnbaaDoor
