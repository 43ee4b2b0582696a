/- The law EventLimits: the walk. -/
import Derived.Test.YtfaepejeemjleaaDoorBtL
namespace Go.Proofs.YtfaepejeemjleaaDoor
open Go.RowKit
set_option linter.unusedVariables false
namespace Bt
open _root_.Go.Proofs.YtfaepejeemjleaaDoor.Nm (ret_int ret_bool)
open Vt (below_drew)

set_option maxRecDepth 100000 in
set_option maxHeartbeats 1000000 in
theorem limits_000 (a t : Nat) (n : Int) (ha : a < 256) (ht : t < 18446744073709551616) (hn0 : -9223372036854775808 ≤ n) (hn1 : n ≤ 9223372036854775807) (m0 : (a : Int) % 10 ≤ 5) (t0 : (t : Int) ≤ 9223372036854775807) (n2 : n < 1) (s : ByteArray)
    (hr : ∀ w, Calls Tryd.prog 5 #[.string ⟨#[120]⟩, .int .i64 (995 + (a : Int) % 10)] w fun e w' => e = .returned (.string s) ∧ Below w.heap.size w w')
    (h1 : ∀ w, Calls Tryd.prog 6 #[.agg #[.int .i64 1, .int .u64 0, .int .i64 0, .int .u64 0, .string s, .string ⟨#[]⟩, .int .i64 0, .int .i64 0, .float .f64 0, .string ⟨#[]⟩, .slice none 0 0]] w fun r w' => r = .returned (.bool true) ∧ Below w.heap.size w w')
    (h2 : ∀ w, Calls Tryd.prog 6 #[.agg #[.int .i64 10, .int .u64 0, .int .i64 0, .int .u64 0, .string ⟨#[]⟩, .string s, .int .i64 0, .int .i64 0, .float .f64 0, .string ⟨#[]⟩, .slice none 0 0]] w fun r w' => r = .returned (.bool true) ∧ Below w.heap.size w w')
    (h3 : ∀ w, Calls Tryd.prog 6 #[.agg #[.int .i64 8, .int .u64 1, .int .i64 0, .int .u64 t, .string ⟨#[]⟩, .string ⟨#[]⟩, .int .i64 0, .int .i64 0, .float .f64 0, .string ⟨#[]⟩, .slice none 0 0]] w fun r w' => r = .returned (.bool true) ∧ Below w.heap.size w w')
    (h4 : ∀ w, Calls Tryd.prog 6 #[.agg #[.int .i64 3, .int .u64 1, .int .i64 n, .int .u64 0, .string ⟨#[]⟩, .string ⟨#[]⟩, .int .i64 0, .int .i64 0, .float .f64 0, .string ⟨#[]⟩, .slice none 0 0]] w fun r w' => r = .returned (.bool false) ∧ Below w.heap.size w w') (w : World) :
    Calls Tryd.prog 3 #[.int .u8 a, .int .u64 t, .int .i64 n] w fun e w' => e = .returned (.bool true) ∧ Below w.heap.size w w' := by
  have HR := Lib.hid (hr w)
  have H1 := Lib.hid h1
  have H2 := Lib.hid h2
  have H3 := Lib.hid h3
  have H4 := Lib.hid h4
  have HA := Lib.hid alive_any
  clear hr h1 h2 h3 h4
  have hw0 : IntKind.i64.wrap (a : Int) = a := by rw [IntKind.wrap_i64]; omega
  have hw1 : IntKind.i64.wrap ((995 : Int) + (a : Int) % 10) = 995 + (a : Int) % 10 := by rw [IntKind.wrap_i64]; omega
  go_enter Tryd.func3, Tryd.ntmps3
  go_wp2_with fail
  refine HR.out.mono ?_
  rintro e w1 ⟨rfl, hb1⟩
  have HB1 := Lib.hid hb1; clear hb1 HR
  go_wp2_with fail
  refine (H1.out _).mono ?_
  rintro e w2 ⟨rfl, hb2⟩
  have HB2 : Hid (Below w.heap.size w w2) := Lib.hid (HB1.out.trans (hb2.mono HB1.out.size)); clear hb2
  go_wp2_with fail
  refine (H2.out _).mono ?_
  rintro e w3 ⟨rfl, hb3⟩
  have HB3 : Hid (Below w.heap.size w w3) := Lib.hid (HB2.out.trans (hb3.mono HB2.out.size)); clear hb3
  go_wp2_with fail
  refine (H3.out _).mono ?_
  rintro e w4 ⟨rfl, hb4⟩
  have HB4 : Hid (Below w.heap.size w w4) := Lib.hid (HB3.out.trans (hb4.mono HB3.out.size)); clear hb4
  go_wp2_with fail
  refine (H4.out _).mono ?_
  rintro e w5 ⟨rfl, hb5⟩
  have HB5 : Hid (Below w.heap.size w w5) := Lib.hid (HB4.out.trans (hb5.mono HB4.out.size)); clear hb5
  go_wp2_with fail
  refine (HA.out _).mono ?_
  rintro e w6 ⟨rfl, hb6⟩
  have HB6 : Hid (Below w.heap.size w w6) := Lib.hid (HB5.out.trans (hb6.mono HB5.out.size)); clear hb6
  go_wp2_with fail
  go_ret
  exact ⟨ret_bool (by first | rfl | (simp; omega)), HB6.out⟩
set_option maxRecDepth 100000 in
set_option maxHeartbeats 1000000 in
theorem limits_001 (a t : Nat) (n : Int) (ha : a < 256) (ht : t < 18446744073709551616) (hn0 : -9223372036854775808 ≤ n) (hn1 : n ≤ 9223372036854775807) (m0 : (a : Int) % 10 ≤ 5) (t0 : (t : Int) ≤ 9223372036854775807) (n2 : 1 ≤ n) (n3 : n ≤ 2147483647) (s : ByteArray)
    (hr : ∀ w, Calls Tryd.prog 5 #[.string ⟨#[120]⟩, .int .i64 (995 + (a : Int) % 10)] w fun e w' => e = .returned (.string s) ∧ Below w.heap.size w w')
    (h1 : ∀ w, Calls Tryd.prog 6 #[.agg #[.int .i64 1, .int .u64 0, .int .i64 0, .int .u64 0, .string s, .string ⟨#[]⟩, .int .i64 0, .int .i64 0, .float .f64 0, .string ⟨#[]⟩, .slice none 0 0]] w fun r w' => r = .returned (.bool true) ∧ Below w.heap.size w w')
    (h2 : ∀ w, Calls Tryd.prog 6 #[.agg #[.int .i64 10, .int .u64 0, .int .i64 0, .int .u64 0, .string ⟨#[]⟩, .string s, .int .i64 0, .int .i64 0, .float .f64 0, .string ⟨#[]⟩, .slice none 0 0]] w fun r w' => r = .returned (.bool true) ∧ Below w.heap.size w w')
    (h3 : ∀ w, Calls Tryd.prog 6 #[.agg #[.int .i64 8, .int .u64 1, .int .i64 0, .int .u64 t, .string ⟨#[]⟩, .string ⟨#[]⟩, .int .i64 0, .int .i64 0, .float .f64 0, .string ⟨#[]⟩, .slice none 0 0]] w fun r w' => r = .returned (.bool true) ∧ Below w.heap.size w w')
    (h4 : ∀ w, Calls Tryd.prog 6 #[.agg #[.int .i64 3, .int .u64 1, .int .i64 n, .int .u64 0, .string ⟨#[]⟩, .string ⟨#[]⟩, .int .i64 0, .int .i64 0, .float .f64 0, .string ⟨#[]⟩, .slice none 0 0]] w fun r w' => r = .returned (.bool true) ∧ Below w.heap.size w w') (w : World) :
    Calls Tryd.prog 3 #[.int .u8 a, .int .u64 t, .int .i64 n] w fun e w' => e = .returned (.bool true) ∧ Below w.heap.size w w' := by
  have HR := Lib.hid (hr w)
  have H1 := Lib.hid h1
  have H2 := Lib.hid h2
  have H3 := Lib.hid h3
  have H4 := Lib.hid h4
  have HA := Lib.hid alive_any
  clear hr h1 h2 h3 h4
  have hw0 : IntKind.i64.wrap (a : Int) = a := by rw [IntKind.wrap_i64]; omega
  have hw1 : IntKind.i64.wrap ((995 : Int) + (a : Int) % 10) = 995 + (a : Int) % 10 := by rw [IntKind.wrap_i64]; omega
  go_enter Tryd.func3, Tryd.ntmps3
  go_wp2_with fail
  refine HR.out.mono ?_
  rintro e w1 ⟨rfl, hb1⟩
  have HB1 := Lib.hid hb1; clear hb1 HR
  go_wp2_with fail
  refine (H1.out _).mono ?_
  rintro e w2 ⟨rfl, hb2⟩
  have HB2 : Hid (Below w.heap.size w w2) := Lib.hid (HB1.out.trans (hb2.mono HB1.out.size)); clear hb2
  go_wp2_with fail
  refine (H2.out _).mono ?_
  rintro e w3 ⟨rfl, hb3⟩
  have HB3 : Hid (Below w.heap.size w w3) := Lib.hid (HB2.out.trans (hb3.mono HB2.out.size)); clear hb3
  go_wp2_with fail
  refine (H3.out _).mono ?_
  rintro e w4 ⟨rfl, hb4⟩
  have HB4 : Hid (Below w.heap.size w w4) := Lib.hid (HB3.out.trans (hb4.mono HB3.out.size)); clear hb4
  go_wp2_with fail
  refine (H4.out _).mono ?_
  rintro e w5 ⟨rfl, hb5⟩
  have HB5 : Hid (Below w.heap.size w w5) := Lib.hid (HB4.out.trans (hb5.mono HB4.out.size)); clear hb5
  go_wp2_with fail
  refine (HA.out _).mono ?_
  rintro e w6 ⟨rfl, hb6⟩
  have HB6 : Hid (Below w.heap.size w w6) := Lib.hid (HB5.out.trans (hb6.mono HB5.out.size)); clear hb6
  go_wp2_with fail
  go_ret
  exact ⟨ret_bool (by first | rfl | (simp; omega)), HB6.out⟩
set_option maxRecDepth 100000 in
set_option maxHeartbeats 1000000 in
theorem limits_002 (a t : Nat) (n : Int) (ha : a < 256) (ht : t < 18446744073709551616) (hn0 : -9223372036854775808 ≤ n) (hn1 : n ≤ 9223372036854775807) (m0 : (a : Int) % 10 ≤ 5) (t0 : (t : Int) ≤ 9223372036854775807) (n2 : 2147483648 ≤ n) (s : ByteArray)
    (hr : ∀ w, Calls Tryd.prog 5 #[.string ⟨#[120]⟩, .int .i64 (995 + (a : Int) % 10)] w fun e w' => e = .returned (.string s) ∧ Below w.heap.size w w')
    (h1 : ∀ w, Calls Tryd.prog 6 #[.agg #[.int .i64 1, .int .u64 0, .int .i64 0, .int .u64 0, .string s, .string ⟨#[]⟩, .int .i64 0, .int .i64 0, .float .f64 0, .string ⟨#[]⟩, .slice none 0 0]] w fun r w' => r = .returned (.bool true) ∧ Below w.heap.size w w')
    (h2 : ∀ w, Calls Tryd.prog 6 #[.agg #[.int .i64 10, .int .u64 0, .int .i64 0, .int .u64 0, .string ⟨#[]⟩, .string s, .int .i64 0, .int .i64 0, .float .f64 0, .string ⟨#[]⟩, .slice none 0 0]] w fun r w' => r = .returned (.bool true) ∧ Below w.heap.size w w')
    (h3 : ∀ w, Calls Tryd.prog 6 #[.agg #[.int .i64 8, .int .u64 1, .int .i64 0, .int .u64 t, .string ⟨#[]⟩, .string ⟨#[]⟩, .int .i64 0, .int .i64 0, .float .f64 0, .string ⟨#[]⟩, .slice none 0 0]] w fun r w' => r = .returned (.bool true) ∧ Below w.heap.size w w')
    (h4 : ∀ w, Calls Tryd.prog 6 #[.agg #[.int .i64 3, .int .u64 1, .int .i64 n, .int .u64 0, .string ⟨#[]⟩, .string ⟨#[]⟩, .int .i64 0, .int .i64 0, .float .f64 0, .string ⟨#[]⟩, .slice none 0 0]] w fun r w' => r = .returned (.bool false) ∧ Below w.heap.size w w') (w : World) :
    Calls Tryd.prog 3 #[.int .u8 a, .int .u64 t, .int .i64 n] w fun e w' => e = .returned (.bool true) ∧ Below w.heap.size w w' := by
  have HR := Lib.hid (hr w)
  have H1 := Lib.hid h1
  have H2 := Lib.hid h2
  have H3 := Lib.hid h3
  have H4 := Lib.hid h4
  have HA := Lib.hid alive_any
  clear hr h1 h2 h3 h4
  have hw0 : IntKind.i64.wrap (a : Int) = a := by rw [IntKind.wrap_i64]; omega
  have hw1 : IntKind.i64.wrap ((995 : Int) + (a : Int) % 10) = 995 + (a : Int) % 10 := by rw [IntKind.wrap_i64]; omega
  go_enter Tryd.func3, Tryd.ntmps3
  go_wp2_with fail
  refine HR.out.mono ?_
  rintro e w1 ⟨rfl, hb1⟩
  have HB1 := Lib.hid hb1; clear hb1 HR
  go_wp2_with fail
  refine (H1.out _).mono ?_
  rintro e w2 ⟨rfl, hb2⟩
  have HB2 : Hid (Below w.heap.size w w2) := Lib.hid (HB1.out.trans (hb2.mono HB1.out.size)); clear hb2
  go_wp2_with fail
  refine (H2.out _).mono ?_
  rintro e w3 ⟨rfl, hb3⟩
  have HB3 : Hid (Below w.heap.size w w3) := Lib.hid (HB2.out.trans (hb3.mono HB2.out.size)); clear hb3
  go_wp2_with fail
  refine (H3.out _).mono ?_
  rintro e w4 ⟨rfl, hb4⟩
  have HB4 : Hid (Below w.heap.size w w4) := Lib.hid (HB3.out.trans (hb4.mono HB3.out.size)); clear hb4
  go_wp2_with fail
  refine (H4.out _).mono ?_
  rintro e w5 ⟨rfl, hb5⟩
  have HB5 : Hid (Below w.heap.size w w5) := Lib.hid (HB4.out.trans (hb5.mono HB4.out.size)); clear hb5
  go_wp2_with fail
  refine (HA.out _).mono ?_
  rintro e w6 ⟨rfl, hb6⟩
  have HB6 : Hid (Below w.heap.size w w6) := Lib.hid (HB5.out.trans (hb6.mono HB5.out.size)); clear hb6
  go_wp2_with fail
  go_ret
  exact ⟨ret_bool (by first | rfl | (simp; omega)), HB6.out⟩
set_option maxRecDepth 100000 in
set_option maxHeartbeats 1000000 in
theorem limits_010 (a t : Nat) (n : Int) (ha : a < 256) (ht : t < 18446744073709551616) (hn0 : -9223372036854775808 ≤ n) (hn1 : n ≤ 9223372036854775807) (m0 : (a : Int) % 10 ≤ 5) (t0 : 9223372036854775808 ≤ (t : Int)) (n2 : n < 1) (s : ByteArray)
    (hr : ∀ w, Calls Tryd.prog 5 #[.string ⟨#[120]⟩, .int .i64 (995 + (a : Int) % 10)] w fun e w' => e = .returned (.string s) ∧ Below w.heap.size w w')
    (h1 : ∀ w, Calls Tryd.prog 6 #[.agg #[.int .i64 1, .int .u64 0, .int .i64 0, .int .u64 0, .string s, .string ⟨#[]⟩, .int .i64 0, .int .i64 0, .float .f64 0, .string ⟨#[]⟩, .slice none 0 0]] w fun r w' => r = .returned (.bool true) ∧ Below w.heap.size w w')
    (h2 : ∀ w, Calls Tryd.prog 6 #[.agg #[.int .i64 10, .int .u64 0, .int .i64 0, .int .u64 0, .string ⟨#[]⟩, .string s, .int .i64 0, .int .i64 0, .float .f64 0, .string ⟨#[]⟩, .slice none 0 0]] w fun r w' => r = .returned (.bool true) ∧ Below w.heap.size w w')
    (h3 : ∀ w, Calls Tryd.prog 6 #[.agg #[.int .i64 8, .int .u64 1, .int .i64 0, .int .u64 t, .string ⟨#[]⟩, .string ⟨#[]⟩, .int .i64 0, .int .i64 0, .float .f64 0, .string ⟨#[]⟩, .slice none 0 0]] w fun r w' => r = .returned (.bool false) ∧ Below w.heap.size w w')
    (h4 : ∀ w, Calls Tryd.prog 6 #[.agg #[.int .i64 3, .int .u64 1, .int .i64 n, .int .u64 0, .string ⟨#[]⟩, .string ⟨#[]⟩, .int .i64 0, .int .i64 0, .float .f64 0, .string ⟨#[]⟩, .slice none 0 0]] w fun r w' => r = .returned (.bool false) ∧ Below w.heap.size w w') (w : World) :
    Calls Tryd.prog 3 #[.int .u8 a, .int .u64 t, .int .i64 n] w fun e w' => e = .returned (.bool true) ∧ Below w.heap.size w w' := by
  have HR := Lib.hid (hr w)
  have H1 := Lib.hid h1
  have H2 := Lib.hid h2
  have H3 := Lib.hid h3
  have H4 := Lib.hid h4
  have HA := Lib.hid alive_any
  clear hr h1 h2 h3 h4
  have hw0 : IntKind.i64.wrap (a : Int) = a := by rw [IntKind.wrap_i64]; omega
  have hw1 : IntKind.i64.wrap ((995 : Int) + (a : Int) % 10) = 995 + (a : Int) % 10 := by rw [IntKind.wrap_i64]; omega
  go_enter Tryd.func3, Tryd.ntmps3
  go_wp2_with fail
  refine HR.out.mono ?_
  rintro e w1 ⟨rfl, hb1⟩
  have HB1 := Lib.hid hb1; clear hb1 HR
  go_wp2_with fail
  refine (H1.out _).mono ?_
  rintro e w2 ⟨rfl, hb2⟩
  have HB2 : Hid (Below w.heap.size w w2) := Lib.hid (HB1.out.trans (hb2.mono HB1.out.size)); clear hb2
  go_wp2_with fail
  refine (H2.out _).mono ?_
  rintro e w3 ⟨rfl, hb3⟩
  have HB3 : Hid (Below w.heap.size w w3) := Lib.hid (HB2.out.trans (hb3.mono HB2.out.size)); clear hb3
  go_wp2_with fail
  refine (H3.out _).mono ?_
  rintro e w4 ⟨rfl, hb4⟩
  have HB4 : Hid (Below w.heap.size w w4) := Lib.hid (HB3.out.trans (hb4.mono HB3.out.size)); clear hb4
  go_wp2_with fail
  refine (H4.out _).mono ?_
  rintro e w5 ⟨rfl, hb5⟩
  have HB5 : Hid (Below w.heap.size w w5) := Lib.hid (HB4.out.trans (hb5.mono HB4.out.size)); clear hb5
  go_wp2_with fail
  refine (HA.out _).mono ?_
  rintro e w6 ⟨rfl, hb6⟩
  have HB6 : Hid (Below w.heap.size w w6) := Lib.hid (HB5.out.trans (hb6.mono HB5.out.size)); clear hb6
  go_wp2_with fail
  go_ret
  exact ⟨ret_bool (by first | rfl | (simp; omega)), HB6.out⟩
set_option maxRecDepth 100000 in
set_option maxHeartbeats 1000000 in
theorem limits_011 (a t : Nat) (n : Int) (ha : a < 256) (ht : t < 18446744073709551616) (hn0 : -9223372036854775808 ≤ n) (hn1 : n ≤ 9223372036854775807) (m0 : (a : Int) % 10 ≤ 5) (t0 : 9223372036854775808 ≤ (t : Int)) (n2 : 1 ≤ n) (n3 : n ≤ 2147483647) (s : ByteArray)
    (hr : ∀ w, Calls Tryd.prog 5 #[.string ⟨#[120]⟩, .int .i64 (995 + (a : Int) % 10)] w fun e w' => e = .returned (.string s) ∧ Below w.heap.size w w')
    (h1 : ∀ w, Calls Tryd.prog 6 #[.agg #[.int .i64 1, .int .u64 0, .int .i64 0, .int .u64 0, .string s, .string ⟨#[]⟩, .int .i64 0, .int .i64 0, .float .f64 0, .string ⟨#[]⟩, .slice none 0 0]] w fun r w' => r = .returned (.bool true) ∧ Below w.heap.size w w')
    (h2 : ∀ w, Calls Tryd.prog 6 #[.agg #[.int .i64 10, .int .u64 0, .int .i64 0, .int .u64 0, .string ⟨#[]⟩, .string s, .int .i64 0, .int .i64 0, .float .f64 0, .string ⟨#[]⟩, .slice none 0 0]] w fun r w' => r = .returned (.bool true) ∧ Below w.heap.size w w')
    (h3 : ∀ w, Calls Tryd.prog 6 #[.agg #[.int .i64 8, .int .u64 1, .int .i64 0, .int .u64 t, .string ⟨#[]⟩, .string ⟨#[]⟩, .int .i64 0, .int .i64 0, .float .f64 0, .string ⟨#[]⟩, .slice none 0 0]] w fun r w' => r = .returned (.bool false) ∧ Below w.heap.size w w')
    (h4 : ∀ w, Calls Tryd.prog 6 #[.agg #[.int .i64 3, .int .u64 1, .int .i64 n, .int .u64 0, .string ⟨#[]⟩, .string ⟨#[]⟩, .int .i64 0, .int .i64 0, .float .f64 0, .string ⟨#[]⟩, .slice none 0 0]] w fun r w' => r = .returned (.bool true) ∧ Below w.heap.size w w') (w : World) :
    Calls Tryd.prog 3 #[.int .u8 a, .int .u64 t, .int .i64 n] w fun e w' => e = .returned (.bool true) ∧ Below w.heap.size w w' := by
  have HR := Lib.hid (hr w)
  have H1 := Lib.hid h1
  have H2 := Lib.hid h2
  have H3 := Lib.hid h3
  have H4 := Lib.hid h4
  have HA := Lib.hid alive_any
  clear hr h1 h2 h3 h4
  have hw0 : IntKind.i64.wrap (a : Int) = a := by rw [IntKind.wrap_i64]; omega
  have hw1 : IntKind.i64.wrap ((995 : Int) + (a : Int) % 10) = 995 + (a : Int) % 10 := by rw [IntKind.wrap_i64]; omega
  go_enter Tryd.func3, Tryd.ntmps3
  go_wp2_with fail
  refine HR.out.mono ?_
  rintro e w1 ⟨rfl, hb1⟩
  have HB1 := Lib.hid hb1; clear hb1 HR
  go_wp2_with fail
  refine (H1.out _).mono ?_
  rintro e w2 ⟨rfl, hb2⟩
  have HB2 : Hid (Below w.heap.size w w2) := Lib.hid (HB1.out.trans (hb2.mono HB1.out.size)); clear hb2
  go_wp2_with fail
  refine (H2.out _).mono ?_
  rintro e w3 ⟨rfl, hb3⟩
  have HB3 : Hid (Below w.heap.size w w3) := Lib.hid (HB2.out.trans (hb3.mono HB2.out.size)); clear hb3
  go_wp2_with fail
  refine (H3.out _).mono ?_
  rintro e w4 ⟨rfl, hb4⟩
  have HB4 : Hid (Below w.heap.size w w4) := Lib.hid (HB3.out.trans (hb4.mono HB3.out.size)); clear hb4
  go_wp2_with fail
  refine (H4.out _).mono ?_
  rintro e w5 ⟨rfl, hb5⟩
  have HB5 : Hid (Below w.heap.size w w5) := Lib.hid (HB4.out.trans (hb5.mono HB4.out.size)); clear hb5
  go_wp2_with fail
  refine (HA.out _).mono ?_
  rintro e w6 ⟨rfl, hb6⟩
  have HB6 : Hid (Below w.heap.size w w6) := Lib.hid (HB5.out.trans (hb6.mono HB5.out.size)); clear hb6
  go_wp2_with fail
  go_ret
  exact ⟨ret_bool (by first | rfl | (simp; omega)), HB6.out⟩
set_option maxRecDepth 100000 in
set_option maxHeartbeats 1000000 in
theorem limits_012 (a t : Nat) (n : Int) (ha : a < 256) (ht : t < 18446744073709551616) (hn0 : -9223372036854775808 ≤ n) (hn1 : n ≤ 9223372036854775807) (m0 : (a : Int) % 10 ≤ 5) (t0 : 9223372036854775808 ≤ (t : Int)) (n2 : 2147483648 ≤ n) (s : ByteArray)
    (hr : ∀ w, Calls Tryd.prog 5 #[.string ⟨#[120]⟩, .int .i64 (995 + (a : Int) % 10)] w fun e w' => e = .returned (.string s) ∧ Below w.heap.size w w')
    (h1 : ∀ w, Calls Tryd.prog 6 #[.agg #[.int .i64 1, .int .u64 0, .int .i64 0, .int .u64 0, .string s, .string ⟨#[]⟩, .int .i64 0, .int .i64 0, .float .f64 0, .string ⟨#[]⟩, .slice none 0 0]] w fun r w' => r = .returned (.bool true) ∧ Below w.heap.size w w')
    (h2 : ∀ w, Calls Tryd.prog 6 #[.agg #[.int .i64 10, .int .u64 0, .int .i64 0, .int .u64 0, .string ⟨#[]⟩, .string s, .int .i64 0, .int .i64 0, .float .f64 0, .string ⟨#[]⟩, .slice none 0 0]] w fun r w' => r = .returned (.bool true) ∧ Below w.heap.size w w')
    (h3 : ∀ w, Calls Tryd.prog 6 #[.agg #[.int .i64 8, .int .u64 1, .int .i64 0, .int .u64 t, .string ⟨#[]⟩, .string ⟨#[]⟩, .int .i64 0, .int .i64 0, .float .f64 0, .string ⟨#[]⟩, .slice none 0 0]] w fun r w' => r = .returned (.bool false) ∧ Below w.heap.size w w')
    (h4 : ∀ w, Calls Tryd.prog 6 #[.agg #[.int .i64 3, .int .u64 1, .int .i64 n, .int .u64 0, .string ⟨#[]⟩, .string ⟨#[]⟩, .int .i64 0, .int .i64 0, .float .f64 0, .string ⟨#[]⟩, .slice none 0 0]] w fun r w' => r = .returned (.bool false) ∧ Below w.heap.size w w') (w : World) :
    Calls Tryd.prog 3 #[.int .u8 a, .int .u64 t, .int .i64 n] w fun e w' => e = .returned (.bool true) ∧ Below w.heap.size w w' := by
  have HR := Lib.hid (hr w)
  have H1 := Lib.hid h1
  have H2 := Lib.hid h2
  have H3 := Lib.hid h3
  have H4 := Lib.hid h4
  have HA := Lib.hid alive_any
  clear hr h1 h2 h3 h4
  have hw0 : IntKind.i64.wrap (a : Int) = a := by rw [IntKind.wrap_i64]; omega
  have hw1 : IntKind.i64.wrap ((995 : Int) + (a : Int) % 10) = 995 + (a : Int) % 10 := by rw [IntKind.wrap_i64]; omega
  go_enter Tryd.func3, Tryd.ntmps3
  go_wp2_with fail
  refine HR.out.mono ?_
  rintro e w1 ⟨rfl, hb1⟩
  have HB1 := Lib.hid hb1; clear hb1 HR
  go_wp2_with fail
  refine (H1.out _).mono ?_
  rintro e w2 ⟨rfl, hb2⟩
  have HB2 : Hid (Below w.heap.size w w2) := Lib.hid (HB1.out.trans (hb2.mono HB1.out.size)); clear hb2
  go_wp2_with fail
  refine (H2.out _).mono ?_
  rintro e w3 ⟨rfl, hb3⟩
  have HB3 : Hid (Below w.heap.size w w3) := Lib.hid (HB2.out.trans (hb3.mono HB2.out.size)); clear hb3
  go_wp2_with fail
  refine (H3.out _).mono ?_
  rintro e w4 ⟨rfl, hb4⟩
  have HB4 : Hid (Below w.heap.size w w4) := Lib.hid (HB3.out.trans (hb4.mono HB3.out.size)); clear hb4
  go_wp2_with fail
  refine (H4.out _).mono ?_
  rintro e w5 ⟨rfl, hb5⟩
  have HB5 : Hid (Below w.heap.size w w5) := Lib.hid (HB4.out.trans (hb5.mono HB4.out.size)); clear hb5
  go_wp2_with fail
  refine (HA.out _).mono ?_
  rintro e w6 ⟨rfl, hb6⟩
  have HB6 : Hid (Below w.heap.size w w6) := Lib.hid (HB5.out.trans (hb6.mono HB5.out.size)); clear hb6
  go_wp2_with fail
  go_ret
  exact ⟨ret_bool (by first | rfl | (simp; omega)), HB6.out⟩
set_option maxRecDepth 100000 in
set_option maxHeartbeats 1000000 in
theorem limits_100 (a t : Nat) (n : Int) (ha : a < 256) (ht : t < 18446744073709551616) (hn0 : -9223372036854775808 ≤ n) (hn1 : n ≤ 9223372036854775807) (m0 : 6 ≤ (a : Int) % 10) (t0 : (t : Int) ≤ 9223372036854775807) (n2 : n < 1) (s : ByteArray)
    (hr : ∀ w, Calls Tryd.prog 5 #[.string ⟨#[120]⟩, .int .i64 (995 + (a : Int) % 10)] w fun e w' => e = .returned (.string s) ∧ Below w.heap.size w w')
    (h1 : ∀ w, Calls Tryd.prog 6 #[.agg #[.int .i64 1, .int .u64 0, .int .i64 0, .int .u64 0, .string s, .string ⟨#[]⟩, .int .i64 0, .int .i64 0, .float .f64 0, .string ⟨#[]⟩, .slice none 0 0]] w fun r w' => r = .returned (.bool false) ∧ Below w.heap.size w w')
    (h2 : ∀ w, Calls Tryd.prog 6 #[.agg #[.int .i64 10, .int .u64 0, .int .i64 0, .int .u64 0, .string ⟨#[]⟩, .string s, .int .i64 0, .int .i64 0, .float .f64 0, .string ⟨#[]⟩, .slice none 0 0]] w fun r w' => r = .returned (.bool false) ∧ Below w.heap.size w w')
    (h3 : ∀ w, Calls Tryd.prog 6 #[.agg #[.int .i64 8, .int .u64 1, .int .i64 0, .int .u64 t, .string ⟨#[]⟩, .string ⟨#[]⟩, .int .i64 0, .int .i64 0, .float .f64 0, .string ⟨#[]⟩, .slice none 0 0]] w fun r w' => r = .returned (.bool true) ∧ Below w.heap.size w w')
    (h4 : ∀ w, Calls Tryd.prog 6 #[.agg #[.int .i64 3, .int .u64 1, .int .i64 n, .int .u64 0, .string ⟨#[]⟩, .string ⟨#[]⟩, .int .i64 0, .int .i64 0, .float .f64 0, .string ⟨#[]⟩, .slice none 0 0]] w fun r w' => r = .returned (.bool false) ∧ Below w.heap.size w w') (w : World) :
    Calls Tryd.prog 3 #[.int .u8 a, .int .u64 t, .int .i64 n] w fun e w' => e = .returned (.bool true) ∧ Below w.heap.size w w' := by
  have HR := Lib.hid (hr w)
  have H1 := Lib.hid h1
  have H2 := Lib.hid h2
  have H3 := Lib.hid h3
  have H4 := Lib.hid h4
  have HA := Lib.hid alive_any
  clear hr h1 h2 h3 h4
  have hw0 : IntKind.i64.wrap (a : Int) = a := by rw [IntKind.wrap_i64]; omega
  have hw1 : IntKind.i64.wrap ((995 : Int) + (a : Int) % 10) = 995 + (a : Int) % 10 := by rw [IntKind.wrap_i64]; omega
  go_enter Tryd.func3, Tryd.ntmps3
  go_wp2_with fail
  refine HR.out.mono ?_
  rintro e w1 ⟨rfl, hb1⟩
  have HB1 := Lib.hid hb1; clear hb1 HR
  go_wp2_with fail
  refine (H1.out _).mono ?_
  rintro e w2 ⟨rfl, hb2⟩
  have HB2 : Hid (Below w.heap.size w w2) := Lib.hid (HB1.out.trans (hb2.mono HB1.out.size)); clear hb2
  go_wp2_with fail
  refine (H2.out _).mono ?_
  rintro e w3 ⟨rfl, hb3⟩
  have HB3 : Hid (Below w.heap.size w w3) := Lib.hid (HB2.out.trans (hb3.mono HB2.out.size)); clear hb3
  go_wp2_with fail
  refine (H3.out _).mono ?_
  rintro e w4 ⟨rfl, hb4⟩
  have HB4 : Hid (Below w.heap.size w w4) := Lib.hid (HB3.out.trans (hb4.mono HB3.out.size)); clear hb4
  go_wp2_with fail
  refine (H4.out _).mono ?_
  rintro e w5 ⟨rfl, hb5⟩
  have HB5 : Hid (Below w.heap.size w w5) := Lib.hid (HB4.out.trans (hb5.mono HB4.out.size)); clear hb5
  go_wp2_with fail
  refine (HA.out _).mono ?_
  rintro e w6 ⟨rfl, hb6⟩
  have HB6 : Hid (Below w.heap.size w w6) := Lib.hid (HB5.out.trans (hb6.mono HB5.out.size)); clear hb6
  go_wp2_with fail
  go_ret
  exact ⟨ret_bool (by first | rfl | (simp; omega)), HB6.out⟩
set_option maxRecDepth 100000 in
set_option maxHeartbeats 1000000 in
theorem limits_101 (a t : Nat) (n : Int) (ha : a < 256) (ht : t < 18446744073709551616) (hn0 : -9223372036854775808 ≤ n) (hn1 : n ≤ 9223372036854775807) (m0 : 6 ≤ (a : Int) % 10) (t0 : (t : Int) ≤ 9223372036854775807) (n2 : 1 ≤ n) (n3 : n ≤ 2147483647) (s : ByteArray)
    (hr : ∀ w, Calls Tryd.prog 5 #[.string ⟨#[120]⟩, .int .i64 (995 + (a : Int) % 10)] w fun e w' => e = .returned (.string s) ∧ Below w.heap.size w w')
    (h1 : ∀ w, Calls Tryd.prog 6 #[.agg #[.int .i64 1, .int .u64 0, .int .i64 0, .int .u64 0, .string s, .string ⟨#[]⟩, .int .i64 0, .int .i64 0, .float .f64 0, .string ⟨#[]⟩, .slice none 0 0]] w fun r w' => r = .returned (.bool false) ∧ Below w.heap.size w w')
    (h2 : ∀ w, Calls Tryd.prog 6 #[.agg #[.int .i64 10, .int .u64 0, .int .i64 0, .int .u64 0, .string ⟨#[]⟩, .string s, .int .i64 0, .int .i64 0, .float .f64 0, .string ⟨#[]⟩, .slice none 0 0]] w fun r w' => r = .returned (.bool false) ∧ Below w.heap.size w w')
    (h3 : ∀ w, Calls Tryd.prog 6 #[.agg #[.int .i64 8, .int .u64 1, .int .i64 0, .int .u64 t, .string ⟨#[]⟩, .string ⟨#[]⟩, .int .i64 0, .int .i64 0, .float .f64 0, .string ⟨#[]⟩, .slice none 0 0]] w fun r w' => r = .returned (.bool true) ∧ Below w.heap.size w w')
    (h4 : ∀ w, Calls Tryd.prog 6 #[.agg #[.int .i64 3, .int .u64 1, .int .i64 n, .int .u64 0, .string ⟨#[]⟩, .string ⟨#[]⟩, .int .i64 0, .int .i64 0, .float .f64 0, .string ⟨#[]⟩, .slice none 0 0]] w fun r w' => r = .returned (.bool true) ∧ Below w.heap.size w w') (w : World) :
    Calls Tryd.prog 3 #[.int .u8 a, .int .u64 t, .int .i64 n] w fun e w' => e = .returned (.bool true) ∧ Below w.heap.size w w' := by
  have HR := Lib.hid (hr w)
  have H1 := Lib.hid h1
  have H2 := Lib.hid h2
  have H3 := Lib.hid h3
  have H4 := Lib.hid h4
  have HA := Lib.hid alive_any
  clear hr h1 h2 h3 h4
  have hw0 : IntKind.i64.wrap (a : Int) = a := by rw [IntKind.wrap_i64]; omega
  have hw1 : IntKind.i64.wrap ((995 : Int) + (a : Int) % 10) = 995 + (a : Int) % 10 := by rw [IntKind.wrap_i64]; omega
  go_enter Tryd.func3, Tryd.ntmps3
  go_wp2_with fail
  refine HR.out.mono ?_
  rintro e w1 ⟨rfl, hb1⟩
  have HB1 := Lib.hid hb1; clear hb1 HR
  go_wp2_with fail
  refine (H1.out _).mono ?_
  rintro e w2 ⟨rfl, hb2⟩
  have HB2 : Hid (Below w.heap.size w w2) := Lib.hid (HB1.out.trans (hb2.mono HB1.out.size)); clear hb2
  go_wp2_with fail
  refine (H2.out _).mono ?_
  rintro e w3 ⟨rfl, hb3⟩
  have HB3 : Hid (Below w.heap.size w w3) := Lib.hid (HB2.out.trans (hb3.mono HB2.out.size)); clear hb3
  go_wp2_with fail
  refine (H3.out _).mono ?_
  rintro e w4 ⟨rfl, hb4⟩
  have HB4 : Hid (Below w.heap.size w w4) := Lib.hid (HB3.out.trans (hb4.mono HB3.out.size)); clear hb4
  go_wp2_with fail
  refine (H4.out _).mono ?_
  rintro e w5 ⟨rfl, hb5⟩
  have HB5 : Hid (Below w.heap.size w w5) := Lib.hid (HB4.out.trans (hb5.mono HB4.out.size)); clear hb5
  go_wp2_with fail
  refine (HA.out _).mono ?_
  rintro e w6 ⟨rfl, hb6⟩
  have HB6 : Hid (Below w.heap.size w w6) := Lib.hid (HB5.out.trans (hb6.mono HB5.out.size)); clear hb6
  go_wp2_with fail
  go_ret
  exact ⟨ret_bool (by first | rfl | (simp; omega)), HB6.out⟩
set_option maxRecDepth 100000 in
set_option maxHeartbeats 1000000 in
theorem limits_102 (a t : Nat) (n : Int) (ha : a < 256) (ht : t < 18446744073709551616) (hn0 : -9223372036854775808 ≤ n) (hn1 : n ≤ 9223372036854775807) (m0 : 6 ≤ (a : Int) % 10) (t0 : (t : Int) ≤ 9223372036854775807) (n2 : 2147483648 ≤ n) (s : ByteArray)
    (hr : ∀ w, Calls Tryd.prog 5 #[.string ⟨#[120]⟩, .int .i64 (995 + (a : Int) % 10)] w fun e w' => e = .returned (.string s) ∧ Below w.heap.size w w')
    (h1 : ∀ w, Calls Tryd.prog 6 #[.agg #[.int .i64 1, .int .u64 0, .int .i64 0, .int .u64 0, .string s, .string ⟨#[]⟩, .int .i64 0, .int .i64 0, .float .f64 0, .string ⟨#[]⟩, .slice none 0 0]] w fun r w' => r = .returned (.bool false) ∧ Below w.heap.size w w')
    (h2 : ∀ w, Calls Tryd.prog 6 #[.agg #[.int .i64 10, .int .u64 0, .int .i64 0, .int .u64 0, .string ⟨#[]⟩, .string s, .int .i64 0, .int .i64 0, .float .f64 0, .string ⟨#[]⟩, .slice none 0 0]] w fun r w' => r = .returned (.bool false) ∧ Below w.heap.size w w')
    (h3 : ∀ w, Calls Tryd.prog 6 #[.agg #[.int .i64 8, .int .u64 1, .int .i64 0, .int .u64 t, .string ⟨#[]⟩, .string ⟨#[]⟩, .int .i64 0, .int .i64 0, .float .f64 0, .string ⟨#[]⟩, .slice none 0 0]] w fun r w' => r = .returned (.bool true) ∧ Below w.heap.size w w')
    (h4 : ∀ w, Calls Tryd.prog 6 #[.agg #[.int .i64 3, .int .u64 1, .int .i64 n, .int .u64 0, .string ⟨#[]⟩, .string ⟨#[]⟩, .int .i64 0, .int .i64 0, .float .f64 0, .string ⟨#[]⟩, .slice none 0 0]] w fun r w' => r = .returned (.bool false) ∧ Below w.heap.size w w') (w : World) :
    Calls Tryd.prog 3 #[.int .u8 a, .int .u64 t, .int .i64 n] w fun e w' => e = .returned (.bool true) ∧ Below w.heap.size w w' := by
  have HR := Lib.hid (hr w)
  have H1 := Lib.hid h1
  have H2 := Lib.hid h2
  have H3 := Lib.hid h3
  have H4 := Lib.hid h4
  have HA := Lib.hid alive_any
  clear hr h1 h2 h3 h4
  have hw0 : IntKind.i64.wrap (a : Int) = a := by rw [IntKind.wrap_i64]; omega
  have hw1 : IntKind.i64.wrap ((995 : Int) + (a : Int) % 10) = 995 + (a : Int) % 10 := by rw [IntKind.wrap_i64]; omega
  go_enter Tryd.func3, Tryd.ntmps3
  go_wp2_with fail
  refine HR.out.mono ?_
  rintro e w1 ⟨rfl, hb1⟩
  have HB1 := Lib.hid hb1; clear hb1 HR
  go_wp2_with fail
  refine (H1.out _).mono ?_
  rintro e w2 ⟨rfl, hb2⟩
  have HB2 : Hid (Below w.heap.size w w2) := Lib.hid (HB1.out.trans (hb2.mono HB1.out.size)); clear hb2
  go_wp2_with fail
  refine (H2.out _).mono ?_
  rintro e w3 ⟨rfl, hb3⟩
  have HB3 : Hid (Below w.heap.size w w3) := Lib.hid (HB2.out.trans (hb3.mono HB2.out.size)); clear hb3
  go_wp2_with fail
  refine (H3.out _).mono ?_
  rintro e w4 ⟨rfl, hb4⟩
  have HB4 : Hid (Below w.heap.size w w4) := Lib.hid (HB3.out.trans (hb4.mono HB3.out.size)); clear hb4
  go_wp2_with fail
  refine (H4.out _).mono ?_
  rintro e w5 ⟨rfl, hb5⟩
  have HB5 : Hid (Below w.heap.size w w5) := Lib.hid (HB4.out.trans (hb5.mono HB4.out.size)); clear hb5
  go_wp2_with fail
  refine (HA.out _).mono ?_
  rintro e w6 ⟨rfl, hb6⟩
  have HB6 : Hid (Below w.heap.size w w6) := Lib.hid (HB5.out.trans (hb6.mono HB5.out.size)); clear hb6
  go_wp2_with fail
  go_ret
  exact ⟨ret_bool (by first | rfl | (simp; omega)), HB6.out⟩
set_option maxRecDepth 100000 in
set_option maxHeartbeats 1000000 in
theorem limits_110 (a t : Nat) (n : Int) (ha : a < 256) (ht : t < 18446744073709551616) (hn0 : -9223372036854775808 ≤ n) (hn1 : n ≤ 9223372036854775807) (m0 : 6 ≤ (a : Int) % 10) (t0 : 9223372036854775808 ≤ (t : Int)) (n2 : n < 1) (s : ByteArray)
    (hr : ∀ w, Calls Tryd.prog 5 #[.string ⟨#[120]⟩, .int .i64 (995 + (a : Int) % 10)] w fun e w' => e = .returned (.string s) ∧ Below w.heap.size w w')
    (h1 : ∀ w, Calls Tryd.prog 6 #[.agg #[.int .i64 1, .int .u64 0, .int .i64 0, .int .u64 0, .string s, .string ⟨#[]⟩, .int .i64 0, .int .i64 0, .float .f64 0, .string ⟨#[]⟩, .slice none 0 0]] w fun r w' => r = .returned (.bool false) ∧ Below w.heap.size w w')
    (h2 : ∀ w, Calls Tryd.prog 6 #[.agg #[.int .i64 10, .int .u64 0, .int .i64 0, .int .u64 0, .string ⟨#[]⟩, .string s, .int .i64 0, .int .i64 0, .float .f64 0, .string ⟨#[]⟩, .slice none 0 0]] w fun r w' => r = .returned (.bool false) ∧ Below w.heap.size w w')
    (h3 : ∀ w, Calls Tryd.prog 6 #[.agg #[.int .i64 8, .int .u64 1, .int .i64 0, .int .u64 t, .string ⟨#[]⟩, .string ⟨#[]⟩, .int .i64 0, .int .i64 0, .float .f64 0, .string ⟨#[]⟩, .slice none 0 0]] w fun r w' => r = .returned (.bool false) ∧ Below w.heap.size w w')
    (h4 : ∀ w, Calls Tryd.prog 6 #[.agg #[.int .i64 3, .int .u64 1, .int .i64 n, .int .u64 0, .string ⟨#[]⟩, .string ⟨#[]⟩, .int .i64 0, .int .i64 0, .float .f64 0, .string ⟨#[]⟩, .slice none 0 0]] w fun r w' => r = .returned (.bool false) ∧ Below w.heap.size w w') (w : World) :
    Calls Tryd.prog 3 #[.int .u8 a, .int .u64 t, .int .i64 n] w fun e w' => e = .returned (.bool true) ∧ Below w.heap.size w w' := by
  have HR := Lib.hid (hr w)
  have H1 := Lib.hid h1
  have H2 := Lib.hid h2
  have H3 := Lib.hid h3
  have H4 := Lib.hid h4
  have HA := Lib.hid alive_any
  clear hr h1 h2 h3 h4
  have hw0 : IntKind.i64.wrap (a : Int) = a := by rw [IntKind.wrap_i64]; omega
  have hw1 : IntKind.i64.wrap ((995 : Int) + (a : Int) % 10) = 995 + (a : Int) % 10 := by rw [IntKind.wrap_i64]; omega
  go_enter Tryd.func3, Tryd.ntmps3
  go_wp2_with fail
  refine HR.out.mono ?_
  rintro e w1 ⟨rfl, hb1⟩
  have HB1 := Lib.hid hb1; clear hb1 HR
  go_wp2_with fail
  refine (H1.out _).mono ?_
  rintro e w2 ⟨rfl, hb2⟩
  have HB2 : Hid (Below w.heap.size w w2) := Lib.hid (HB1.out.trans (hb2.mono HB1.out.size)); clear hb2
  go_wp2_with fail
  refine (H2.out _).mono ?_
  rintro e w3 ⟨rfl, hb3⟩
  have HB3 : Hid (Below w.heap.size w w3) := Lib.hid (HB2.out.trans (hb3.mono HB2.out.size)); clear hb3
  go_wp2_with fail
  refine (H3.out _).mono ?_
  rintro e w4 ⟨rfl, hb4⟩
  have HB4 : Hid (Below w.heap.size w w4) := Lib.hid (HB3.out.trans (hb4.mono HB3.out.size)); clear hb4
  go_wp2_with fail
  refine (H4.out _).mono ?_
  rintro e w5 ⟨rfl, hb5⟩
  have HB5 : Hid (Below w.heap.size w w5) := Lib.hid (HB4.out.trans (hb5.mono HB4.out.size)); clear hb5
  go_wp2_with fail
  refine (HA.out _).mono ?_
  rintro e w6 ⟨rfl, hb6⟩
  have HB6 : Hid (Below w.heap.size w w6) := Lib.hid (HB5.out.trans (hb6.mono HB5.out.size)); clear hb6
  go_wp2_with fail
  go_ret
  exact ⟨ret_bool (by first | rfl | (simp; omega)), HB6.out⟩
set_option maxRecDepth 100000 in
set_option maxHeartbeats 1000000 in
theorem limits_111 (a t : Nat) (n : Int) (ha : a < 256) (ht : t < 18446744073709551616) (hn0 : -9223372036854775808 ≤ n) (hn1 : n ≤ 9223372036854775807) (m0 : 6 ≤ (a : Int) % 10) (t0 : 9223372036854775808 ≤ (t : Int)) (n2 : 1 ≤ n) (n3 : n ≤ 2147483647) (s : ByteArray)
    (hr : ∀ w, Calls Tryd.prog 5 #[.string ⟨#[120]⟩, .int .i64 (995 + (a : Int) % 10)] w fun e w' => e = .returned (.string s) ∧ Below w.heap.size w w')
    (h1 : ∀ w, Calls Tryd.prog 6 #[.agg #[.int .i64 1, .int .u64 0, .int .i64 0, .int .u64 0, .string s, .string ⟨#[]⟩, .int .i64 0, .int .i64 0, .float .f64 0, .string ⟨#[]⟩, .slice none 0 0]] w fun r w' => r = .returned (.bool false) ∧ Below w.heap.size w w')
    (h2 : ∀ w, Calls Tryd.prog 6 #[.agg #[.int .i64 10, .int .u64 0, .int .i64 0, .int .u64 0, .string ⟨#[]⟩, .string s, .int .i64 0, .int .i64 0, .float .f64 0, .string ⟨#[]⟩, .slice none 0 0]] w fun r w' => r = .returned (.bool false) ∧ Below w.heap.size w w')
    (h3 : ∀ w, Calls Tryd.prog 6 #[.agg #[.int .i64 8, .int .u64 1, .int .i64 0, .int .u64 t, .string ⟨#[]⟩, .string ⟨#[]⟩, .int .i64 0, .int .i64 0, .float .f64 0, .string ⟨#[]⟩, .slice none 0 0]] w fun r w' => r = .returned (.bool false) ∧ Below w.heap.size w w')
    (h4 : ∀ w, Calls Tryd.prog 6 #[.agg #[.int .i64 3, .int .u64 1, .int .i64 n, .int .u64 0, .string ⟨#[]⟩, .string ⟨#[]⟩, .int .i64 0, .int .i64 0, .float .f64 0, .string ⟨#[]⟩, .slice none 0 0]] w fun r w' => r = .returned (.bool true) ∧ Below w.heap.size w w') (w : World) :
    Calls Tryd.prog 3 #[.int .u8 a, .int .u64 t, .int .i64 n] w fun e w' => e = .returned (.bool true) ∧ Below w.heap.size w w' := by
  have HR := Lib.hid (hr w)
  have H1 := Lib.hid h1
  have H2 := Lib.hid h2
  have H3 := Lib.hid h3
  have H4 := Lib.hid h4
  have HA := Lib.hid alive_any
  clear hr h1 h2 h3 h4
  have hw0 : IntKind.i64.wrap (a : Int) = a := by rw [IntKind.wrap_i64]; omega
  have hw1 : IntKind.i64.wrap ((995 : Int) + (a : Int) % 10) = 995 + (a : Int) % 10 := by rw [IntKind.wrap_i64]; omega
  go_enter Tryd.func3, Tryd.ntmps3
  go_wp2_with fail
  refine HR.out.mono ?_
  rintro e w1 ⟨rfl, hb1⟩
  have HB1 := Lib.hid hb1; clear hb1 HR
  go_wp2_with fail
  refine (H1.out _).mono ?_
  rintro e w2 ⟨rfl, hb2⟩
  have HB2 : Hid (Below w.heap.size w w2) := Lib.hid (HB1.out.trans (hb2.mono HB1.out.size)); clear hb2
  go_wp2_with fail
  refine (H2.out _).mono ?_
  rintro e w3 ⟨rfl, hb3⟩
  have HB3 : Hid (Below w.heap.size w w3) := Lib.hid (HB2.out.trans (hb3.mono HB2.out.size)); clear hb3
  go_wp2_with fail
  refine (H3.out _).mono ?_
  rintro e w4 ⟨rfl, hb4⟩
  have HB4 : Hid (Below w.heap.size w w4) := Lib.hid (HB3.out.trans (hb4.mono HB3.out.size)); clear hb4
  go_wp2_with fail
  refine (H4.out _).mono ?_
  rintro e w5 ⟨rfl, hb5⟩
  have HB5 : Hid (Below w.heap.size w w5) := Lib.hid (HB4.out.trans (hb5.mono HB4.out.size)); clear hb5
  go_wp2_with fail
  refine (HA.out _).mono ?_
  rintro e w6 ⟨rfl, hb6⟩
  have HB6 : Hid (Below w.heap.size w w6) := Lib.hid (HB5.out.trans (hb6.mono HB5.out.size)); clear hb6
  go_wp2_with fail
  go_ret
  exact ⟨ret_bool (by first | rfl | (simp; omega)), HB6.out⟩
set_option maxRecDepth 100000 in
set_option maxHeartbeats 1000000 in
theorem limits_112 (a t : Nat) (n : Int) (ha : a < 256) (ht : t < 18446744073709551616) (hn0 : -9223372036854775808 ≤ n) (hn1 : n ≤ 9223372036854775807) (m0 : 6 ≤ (a : Int) % 10) (t0 : 9223372036854775808 ≤ (t : Int)) (n2 : 2147483648 ≤ n) (s : ByteArray)
    (hr : ∀ w, Calls Tryd.prog 5 #[.string ⟨#[120]⟩, .int .i64 (995 + (a : Int) % 10)] w fun e w' => e = .returned (.string s) ∧ Below w.heap.size w w')
    (h1 : ∀ w, Calls Tryd.prog 6 #[.agg #[.int .i64 1, .int .u64 0, .int .i64 0, .int .u64 0, .string s, .string ⟨#[]⟩, .int .i64 0, .int .i64 0, .float .f64 0, .string ⟨#[]⟩, .slice none 0 0]] w fun r w' => r = .returned (.bool false) ∧ Below w.heap.size w w')
    (h2 : ∀ w, Calls Tryd.prog 6 #[.agg #[.int .i64 10, .int .u64 0, .int .i64 0, .int .u64 0, .string ⟨#[]⟩, .string s, .int .i64 0, .int .i64 0, .float .f64 0, .string ⟨#[]⟩, .slice none 0 0]] w fun r w' => r = .returned (.bool false) ∧ Below w.heap.size w w')
    (h3 : ∀ w, Calls Tryd.prog 6 #[.agg #[.int .i64 8, .int .u64 1, .int .i64 0, .int .u64 t, .string ⟨#[]⟩, .string ⟨#[]⟩, .int .i64 0, .int .i64 0, .float .f64 0, .string ⟨#[]⟩, .slice none 0 0]] w fun r w' => r = .returned (.bool false) ∧ Below w.heap.size w w')
    (h4 : ∀ w, Calls Tryd.prog 6 #[.agg #[.int .i64 3, .int .u64 1, .int .i64 n, .int .u64 0, .string ⟨#[]⟩, .string ⟨#[]⟩, .int .i64 0, .int .i64 0, .float .f64 0, .string ⟨#[]⟩, .slice none 0 0]] w fun r w' => r = .returned (.bool false) ∧ Below w.heap.size w w') (w : World) :
    Calls Tryd.prog 3 #[.int .u8 a, .int .u64 t, .int .i64 n] w fun e w' => e = .returned (.bool true) ∧ Below w.heap.size w w' := by
  have HR := Lib.hid (hr w)
  have H1 := Lib.hid h1
  have H2 := Lib.hid h2
  have H3 := Lib.hid h3
  have H4 := Lib.hid h4
  have HA := Lib.hid alive_any
  clear hr h1 h2 h3 h4
  have hw0 : IntKind.i64.wrap (a : Int) = a := by rw [IntKind.wrap_i64]; omega
  have hw1 : IntKind.i64.wrap ((995 : Int) + (a : Int) % 10) = 995 + (a : Int) % 10 := by rw [IntKind.wrap_i64]; omega
  go_enter Tryd.func3, Tryd.ntmps3
  go_wp2_with fail
  refine HR.out.mono ?_
  rintro e w1 ⟨rfl, hb1⟩
  have HB1 := Lib.hid hb1; clear hb1 HR
  go_wp2_with fail
  refine (H1.out _).mono ?_
  rintro e w2 ⟨rfl, hb2⟩
  have HB2 : Hid (Below w.heap.size w w2) := Lib.hid (HB1.out.trans (hb2.mono HB1.out.size)); clear hb2
  go_wp2_with fail
  refine (H2.out _).mono ?_
  rintro e w3 ⟨rfl, hb3⟩
  have HB3 : Hid (Below w.heap.size w w3) := Lib.hid (HB2.out.trans (hb3.mono HB2.out.size)); clear hb3
  go_wp2_with fail
  refine (H3.out _).mono ?_
  rintro e w4 ⟨rfl, hb4⟩
  have HB4 : Hid (Below w.heap.size w w4) := Lib.hid (HB3.out.trans (hb4.mono HB3.out.size)); clear hb4
  go_wp2_with fail
  refine (H4.out _).mono ?_
  rintro e w5 ⟨rfl, hb5⟩
  have HB5 : Hid (Below w.heap.size w w5) := Lib.hid (HB4.out.trans (hb5.mono HB4.out.size)); clear hb5
  go_wp2_with fail
  refine (HA.out _).mono ?_
  rintro e w6 ⟨rfl, hb6⟩
  have HB6 : Hid (Below w.heap.size w w6) := Lib.hid (HB5.out.trans (hb6.mono HB5.out.size)); clear hb6
  go_wp2_with fail
  go_ret
  exact ⟨ret_bool (by first | rfl | (simp; omega)), HB6.out⟩
theorem limits_walk (a t : Nat) (n : Int) (ha : a < 256) (ht : t < 18446744073709551616) (hn0 : -9223372036854775808 ≤ n) (hn1 : n ≤ 9223372036854775807) (w : World) :
    Calls Tryd.prog 3 #[.int .u8 a, .int .u64 t, .int .i64 n] w fun e w' => e = .returned (.bool true) ∧ Below w.heap.size w w' := by
  have hR := fun w => repeat_any ⟨#[120]⟩ (995 + a % 10) w (by omega) (by show 1 * _ ≤ _; omega)
  generalize htx : (⟨(Lib.repeatL (⟨#[120]⟩ : ByteArray).data.toList (995 + a % 10)).toArray⟩ : ByteArray) = s at *
  have hsz : s.size = 995 + a % 10 := by rw [← htx]; exact repeat_size _
  clear htx
  rw [show ((995 + a % 10 : Nat) : Int) = 995 + (a : Int) % 10 by omega] at hR
  have h1 := valid_name s (by omega) (by omega)
  have h2 := valid_text s (by omega) (by omega)
  have h3 := valid_at t ht
  have h4 := valid_n n hn0 hn1
  by_cases c1 : a % 10 ≤ 5
  · rw [decide_eq_true (by omega)] at h1 h2
    by_cases c2 : t ≤ 9223372036854775807
    · rw [decide_eq_true (by omega)] at h3
      by_cases c3 : n < 1
      · rw [decide_eq_false (by omega), Bool.false_and] at h4
        exact limits_000 a t n ha ht hn0 hn1 (by omega) (by omega) (by omega) s hR h1 h2 h3 h4 w
      · rw [decide_eq_true (by omega), Bool.true_and] at h4
        by_cases c4 : n ≤ 2147483647
        · rw [decide_eq_true (by omega)] at h4
          exact limits_001 a t n ha ht hn0 hn1 (by omega) (by omega) (by omega) (by omega) s hR h1 h2 h3 h4 w
        · rw [decide_eq_false (by omega)] at h4
          exact limits_002 a t n ha ht hn0 hn1 (by omega) (by omega) (by omega) s hR h1 h2 h3 h4 w
    · rw [decide_eq_false (by omega)] at h3
      by_cases c3 : n < 1
      · rw [decide_eq_false (by omega), Bool.false_and] at h4
        exact limits_010 a t n ha ht hn0 hn1 (by omega) (by omega) (by omega) s hR h1 h2 h3 h4 w
      · rw [decide_eq_true (by omega), Bool.true_and] at h4
        by_cases c4 : n ≤ 2147483647
        · rw [decide_eq_true (by omega)] at h4
          exact limits_011 a t n ha ht hn0 hn1 (by omega) (by omega) (by omega) (by omega) s hR h1 h2 h3 h4 w
        · rw [decide_eq_false (by omega)] at h4
          exact limits_012 a t n ha ht hn0 hn1 (by omega) (by omega) (by omega) s hR h1 h2 h3 h4 w
  · rw [decide_eq_false (by omega)] at h1 h2
    by_cases c2 : t ≤ 9223372036854775807
    · rw [decide_eq_true (by omega)] at h3
      by_cases c3 : n < 1
      · rw [decide_eq_false (by omega), Bool.false_and] at h4
        exact limits_100 a t n ha ht hn0 hn1 (by omega) (by omega) (by omega) s hR h1 h2 h3 h4 w
      · rw [decide_eq_true (by omega), Bool.true_and] at h4
        by_cases c4 : n ≤ 2147483647
        · rw [decide_eq_true (by omega)] at h4
          exact limits_101 a t n ha ht hn0 hn1 (by omega) (by omega) (by omega) (by omega) s hR h1 h2 h3 h4 w
        · rw [decide_eq_false (by omega)] at h4
          exact limits_102 a t n ha ht hn0 hn1 (by omega) (by omega) (by omega) s hR h1 h2 h3 h4 w
    · rw [decide_eq_false (by omega)] at h3
      by_cases c3 : n < 1
      · rw [decide_eq_false (by omega), Bool.false_and] at h4
        exact limits_110 a t n ha ht hn0 hn1 (by omega) (by omega) (by omega) s hR h1 h2 h3 h4 w
      · rw [decide_eq_true (by omega), Bool.true_and] at h4
        by_cases c4 : n ≤ 2147483647
        · rw [decide_eq_true (by omega)] at h4
          exact limits_111 a t n ha ht hn0 hn1 (by omega) (by omega) (by omega) (by omega) s hR h1 h2 h3 h4 w
        · rw [decide_eq_false (by omega)] at h4
          exact limits_112 a t n ha ht hn0 hn1 (by omega) (by omega) (by omega) s hR h1 h2 h3 h4 w

set_option maxRecDepth 100000 in
open Go.ChangeShapes Go.WideShapes Go.ChangeAt Go.ChangeMaps in
theorem limits_open {H : Type} {enc : TypeId × Value → H} {base b1 : Nat} {spare : Nat → Bool} {held : Bool} {d0 d1 d2 : DataW H} {p0 p1 p2 : List MemPlace} (v0 v1 v2 : Value) (W : World)
    (o0 : Value.okWide Tryd.prog W .any base 5 v0) (k0 : DataW.Trod enc Tryd.prog W b1 spare held 5 v0 d0 p0)
    (o1 : Value.okWide Tryd.prog W .any base 22 v1) (k1 : DataW.Trod enc Tryd.prog W b1 spare held 22 v1 d1 p1)
    (o2 : Value.okWide Tryd.prog W .any base 3 v2) (k2 : DataW.Trod enc Tryd.prog W b1 spare held 3 v2 d2 p2) :
    Calls Tryd.prog 3 #[v0, v1, v2] W fun e w' => e = .returned (.bool true) ∧ Below W.heap.size W w' := by
  obtain ⟨a, rfl, rfl, rfl, w2⟩ := open_int Tryd.underlying5 o0 k0
  obtain ⟨b, rfl, rfl, rfl, w3⟩ := open_int Tryd.underlying22 o1 k1
  obtain ⟨c, rfl, rfl, rfl, w4⟩ := open_int Tryd.underlying3 o2 k2
  simp [Lit.wf, IntKind.min, IntKind.max, IntKind.bits, IntKind.signed] at w2 w3 w4
  have h := limits_walk a.toNat b.toNat c (by omega) (by omega) (by omega) (by omega) W
  rw [Int.toNat_of_nonneg w2.1, Int.toNat_of_nonneg w3.1] at h
  exact h
end Bt
end Go.Proofs.YtfaepejeemjleaaDoor
