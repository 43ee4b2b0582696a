/- The laws NumScales, NumBits and NumGrows: each returns true and leaves the world as it was. -/
import Derived.Test.YtbhfnaihfilahaaDoorNmC
import Derived.ProofKit
import Derived.OpenShut
namespace Go.Proofs.YtbhfnaihfilahaaDoor
open Go.RowKit
namespace Nm

theorem addW_comm (a b : Nat) : addW a b = addW b a := by unfold addW; rw [Nat.add_comm]
theorem addW_lt (a b : Nat) : addW a b < 9223372036854775808 := by unfold addW; split <;> omega
theorem scaleW_lt (n b : Nat) : scaleW n b < 9223372036854775808 := by
  unfold scaleW
  split
  · have : Fm.scl n (b % 2 ^ 63) ≤ 2 ^ 63 - 1 := Nat.min_le_right _ _
    omega
  · omega
theorem scaleW_0 (n : Nat) : scaleW n 0 = 0 := by
  have : pos 0 = false := by decide
  unfold scaleW; rw [this]; simp

set_option maxHeartbeats 1000000 in
theorem scales_walk (n m b : Nat) (hn : n < 18446744073709551616) (hm : m < 18446744073709551616) (hb : b < 18446744073709551616) (w : World) :
    Calls Tryd.prog 4 #[.int .u64 n, .int .u64 m, .int .u64 b] w fun e w' => e = .returned (.bool true) ∧ w = w' := by
  have hr := fun w => run_frombits b w
  have c1 := fun w => scale_any n b hn w
  have c2 := fun w => add_any n m hn hm w
  have c3 := fun w => rscale_any n b hn hb w
  have c4 := fun w => radd_any n m hn hm w
  have c5 := fun w => add_any m n hm hn w
  have c6 := fun w => scale_any n 0 hn w
  rw [addW_comm m n] at c5
  rw [scaleW_0] at c6
  have x1 := scaleW_lt n b
  have y1 := addW_lt n m
  generalize scaleW n b = x at *
  generalize addW n m = y at *
  have x1' : (x : Int) < 9223372036854775808 := by omega
  have y1' : (y : Int) < 9223372036854775808 := by omega
  have C1 := Lib.hid c1; have C2 := Lib.hid c2; have C3 := Lib.hid c3; have C4 := Lib.hid c4; have C5 := Lib.hid c5; have C6 := Lib.hid c6
  clear c1 c2 c3 c4 c5 c6 hn hm hb x1 y1
  go_enter Tryd.func4, Tryd.ntmps4
  go_wp2_with fail
  refine (C1.out _).mono ?_
  rintro e w' ⟨rfl, rfl⟩
  go_wp2_with fail
  refine (C2.out _).mono ?_
  rintro e w' ⟨rfl, rfl⟩
  go_wp2_with fail
  refine (alive_any _).mono ?_
  rintro e w' ⟨rfl, rfl⟩
  go_wp2_with fail
  refine (C3.out _).mono ?_
  rintro e w' ⟨rfl, rfl⟩
  go_wp2_with fail
  refine (C4.out _).mono ?_
  rintro e w' ⟨rfl, rfl⟩
  go_wp2_with fail
  refine (C5.out _).mono ?_
  rintro e w' ⟨rfl, rfl⟩
  go_wp2_with fail
  refine (C6.out _).mono ?_
  rintro e w' ⟨rfl, rfl⟩
  go_wp2_with fail
  go_ret
  exact ⟨rfl, rfl⟩

theorem bitsW_of (b : Nat) (h : okW b = true) : bitsW (ofW b) = b := by
  unfold ofW
  rw [if_pos h]
  unfold okW at h
  unfold bitsW
  cases hn : Fm.isNan b with
  | true =>
    rw [hn] at h
    simp at h
    simp [h]
  | false => rfl

set_option maxHeartbeats 1000000 in
theorem bits_walk (b : Nat) (hb : b < 18446744073709551616) (w : World) :
    Calls Tryd.prog 5 #[.int .u64 b] w fun e w' => e = .returned (.bool true) ∧ w = w' := by
  have hr := fun w => run_frombits b w
  have hr2 := fun w => run_f64bits (ofW b) w
  have hr3 := fun w => run_f64bits (bitsW b) w
  have key := bitsW_of b
  have C1 := Lib.hid (fun w => of_any b w)
  have C2 := Lib.hid (fun w => rof_any b hb w)
  have C3 := Lib.hid (fun w => bits_any b w)
  have C4 := Lib.hid (fun w => rbits_any b hb w)
  have C5 := Lib.hid (fun w => canon_any b w)
  have C6 := Lib.hid (fun w => bits_any (ofW b) w)
  clear hb
  generalize bitsW b = x at *
  generalize hz : bitsW (ofW b) = z at *
  clear hz
  generalize ofW b = f at *
  cases hk : okW b with
  | true =>
    rw [hk] at C1 C2
    obtain rfl := key hk
    clear key hk
    go_enter Tryd.func5, Tryd.ntmps5
    go_wp2_with fail
    refine (C1.out _).mono ?_
    rintro e w' ⟨rfl, rfl⟩
    go_wp2_with fail
    refine (C2.out _).mono ?_
    rintro e w' ⟨rfl, rfl⟩
    go_wp2_with fail
    refine (C3.out _).mono ?_
    rintro e w' ⟨rfl, rfl⟩
    go_wp2_with fail
    refine (C4.out _).mono ?_
    rintro e w' ⟨rfl, rfl⟩
    go_wp2_with fail
    refine (alive_any _).mono ?_
    rintro e w' ⟨rfl, rfl⟩
    go_wp2_with fail
    refine (C5.out _).mono ?_
    rintro e w' ⟨rfl, rfl⟩
    go_wp2_with fail
    refine (C4.out _).mono ?_
    rintro e w' ⟨rfl, rfl⟩
    go_wp2_with fail
    refine (C6.out _).mono ?_
    rintro e w' ⟨rfl, rfl⟩
    go_wp2_with fail
    go_ret
    exact ⟨rfl, rfl⟩
  | false =>
    rw [hk] at C1 C2
    clear key hk C6
    go_enter Tryd.func5, Tryd.ntmps5
    go_wp2_with fail
    refine (C1.out _).mono ?_
    rintro e w' ⟨rfl, rfl⟩
    go_wp2_with fail
    refine (C2.out _).mono ?_
    rintro e w' ⟨rfl, rfl⟩
    go_wp2_with fail
    refine (C3.out _).mono ?_
    rintro e w' ⟨rfl, rfl⟩
    go_wp2_with fail
    refine (C4.out _).mono ?_
    rintro e w' ⟨rfl, rfl⟩
    go_wp2_with fail
    refine (alive_any _).mono ?_
    rintro e w' ⟨rfl, rfl⟩
    go_wp2_with fail
    refine (C5.out _).mono ?_
    rintro e w' ⟨rfl, rfl⟩
    go_wp2_with fail
    refine (C4.out _).mono ?_
    rintro e w' ⟨rfl, rfl⟩
    go_wp2_with fail
    go_ret
    exact ⟨rfl, rfl⟩

set_option maxRecDepth 100000 in
open Go.ChangeShapes Go.WideShapes Go.ChangeAt in
theorem u64_open {H : Type} {enc : TypeId × Value → H} {base b1 : Nat} {spare : Nat → Bool} {held : Bool} {d : DataW H} {p : List MemPlace} (v : Value) (W : World)
    (o : Value.okWide Tryd.prog W .any base 22 v) (k : DataW.Trod enc Tryd.prog W b1 spare held 22 v d p) : ∃ n : Nat, v = .int .u64 n ∧ n < 18446744073709551616 := by
  obtain ⟨a, rfl, rfl, rfl, wa⟩ := open_int Tryd.underlying22 o k
  simp [Lit.wf, IntKind.min, IntKind.max, IntKind.bits, IntKind.signed] at wa
  exact ⟨a.toNat, by rw [Int.toNat_of_nonneg wa.1], by omega⟩

set_option maxRecDepth 100000 in
theorem scales_open {H : Type} {enc : TypeId × Value → H} {base b1 : Nat} {spare : Nat → Bool} {held : Bool} {d0 d1 d2 : DataW H} {p0 p1 p2 : List MemPlace} (v0 v1 v2 : Value) (W : World)
    (o0 : Value.okWide Tryd.prog W .any base 22 v0) (k0 : DataW.Trod enc Tryd.prog W b1 spare held 22 v0 d0 p0)
    (o1 : Value.okWide Tryd.prog W .any base 22 v1) (k1 : DataW.Trod enc Tryd.prog W b1 spare held 22 v1 d1 p1)
    (o2 : Value.okWide Tryd.prog W .any base 22 v2) (k2 : DataW.Trod enc Tryd.prog W b1 spare held 22 v2 d2 p2) :
    Calls Tryd.prog 4 #[v0, v1, v2] W fun e w' => e = .returned (.bool true) ∧ Below W.heap.size W w' := by
  obtain ⟨n0, rfl, l0⟩ := u64_open v0 W o0 k0
  obtain ⟨n1, rfl, l1⟩ := u64_open v1 W o1 k1
  obtain ⟨n2, rfl, l2⟩ := u64_open v2 W o2 k2
  exact (scales_walk n0 n1 n2 l0 l1 l2 W).mono fun e w' h => ⟨h.1, h.2 ▸ Below.refl _ _⟩

set_option maxRecDepth 100000 in
theorem bits_open {H : Type} {enc : TypeId × Value → H} {base b1 : Nat} {spare : Nat → Bool} {held : Bool} {d0 : DataW H} {p0 : List MemPlace} (v0 : Value) (W : World)
    (o0 : Value.okWide Tryd.prog W .any base 22 v0) (k0 : DataW.Trod enc Tryd.prog W b1 spare held 22 v0 d0 p0) :
    Calls Tryd.prog 5 #[v0] W fun e w' => e = .returned (.bool true) ∧ Below W.heap.size W w' := by
  obtain ⟨n0, rfl, l0⟩ := u64_open v0 W o0 k0
  exact (bits_walk n0 l0 W).mono fun e w' h => ⟨h.1, h.2 ▸ Below.refl _ _⟩
end Nm
end Go.Proofs.YtbhfnaihfilahaaDoor
