/- The reference's text of any number. -/
import Derived.Test.YtdibokeinmhmbaaDoorFuH
import Derived.Test.YtdibokeinmhmbaaDoorNmE
namespace Go.Proofs.YtdibokeinmhmbaaDoor
open Go.RowKit
set_option linter.unusedVariables false
namespace Fu
open _root_.Go.Proofs.YtdibokeinmhmbaaDoor.Nm (bitsW rbits_any bitsW_lt)
/-- The text of a number with these bits. -/
def textW (v : Nat) : ByteArray :=
  if v = 9221120237041090561 then ⟨#[110, 97, 110]⟩ else
  if v = 9218868437227405312 then ⟨#[105, 110, 102]⟩ else
  if v = 18442240474082181120 then ⟨#[45, 105, 110, 102]⟩ else
  if v = 0 then ⟨#[48]⟩ else
  if v = 9223372036854775808 then ⟨#[45, 48]⟩ else
  top v 16
set_option maxRecDepth 100000 in
theorem rtext_sp1 (b : Nat) (hb : b < 18446744073709551616) (hv : bitsW b = 9221120237041090561) (w : World) :
    Calls Tryd.prog 23 #[.float .f64 b] w fun e w' => e = .returned (.string ⟨#[110, 97, 110]⟩) ∧ w' = w := by
  have HB := Lib.hid (rbits_any b hb w)
  rw [hv] at HB
  clear hv hb
  go_enter Tryd.func23, Tryd.ntmps23
  go_wp2_with fail
  refine HB.out.mono ?_
  rintro e w1 ⟨rfl, rfl⟩
  go_wp2_with fail
  go_ret
  exact ⟨rfl, rfl⟩
set_option maxRecDepth 100000 in
theorem rtext_sp2 (b : Nat) (hb : b < 18446744073709551616) (hv : bitsW b = 9218868437227405312) (w : World) :
    Calls Tryd.prog 23 #[.float .f64 b] w fun e w' => e = .returned (.string ⟨#[105, 110, 102]⟩) ∧ w' = w := by
  have HB := Lib.hid (rbits_any b hb w)
  rw [hv] at HB
  clear hv hb
  go_enter Tryd.func23, Tryd.ntmps23
  go_wp2_with fail
  refine HB.out.mono ?_
  rintro e w1 ⟨rfl, rfl⟩
  go_wp2_with fail
  go_ret
  exact ⟨rfl, rfl⟩
set_option maxRecDepth 100000 in
theorem rtext_sp3 (b : Nat) (hb : b < 18446744073709551616) (hv : bitsW b = 18442240474082181120) (w : World) :
    Calls Tryd.prog 23 #[.float .f64 b] w fun e w' => e = .returned (.string ⟨#[45, 105, 110, 102]⟩) ∧ w' = w := by
  have HB := Lib.hid (rbits_any b hb w)
  rw [hv] at HB
  clear hv hb
  go_enter Tryd.func23, Tryd.ntmps23
  go_wp2_with fail
  refine HB.out.mono ?_
  rintro e w1 ⟨rfl, rfl⟩
  go_wp2_with fail
  go_ret
  exact ⟨rfl, rfl⟩
set_option maxRecDepth 100000 in
theorem rtext_sp4 (b : Nat) (hb : b < 18446744073709551616) (hv : bitsW b = 0) (w : World) :
    Calls Tryd.prog 23 #[.float .f64 b] w fun e w' => e = .returned (.string ⟨#[48]⟩) ∧ w' = w := by
  have HB := Lib.hid (rbits_any b hb w)
  rw [hv] at HB
  clear hv hb
  go_enter Tryd.func23, Tryd.ntmps23
  go_wp2_with fail
  refine HB.out.mono ?_
  rintro e w1 ⟨rfl, rfl⟩
  go_wp2_with fail
  go_ret
  exact ⟨rfl, rfl⟩
set_option maxRecDepth 100000 in
theorem rtext_sp5 (b : Nat) (hb : b < 18446744073709551616) (hv : bitsW b = 9223372036854775808) (w : World) :
    Calls Tryd.prog 23 #[.float .f64 b] w fun e w' => e = .returned (.string ⟨#[45, 48]⟩) ∧ w' = w := by
  have HB := Lib.hid (rbits_any b hb w)
  rw [hv] at HB
  clear hv hb
  go_enter Tryd.func23, Tryd.ntmps23
  go_wp2_with fail
  refine HB.out.mono ?_
  rintro e w1 ⟨rfl, rfl⟩
  go_wp2_with fail
  go_ret
  exact ⟨rfl, rfl⟩
theorem rtext_any (b : Nat) (hb : b < 18446744073709551616) (w : World) :
    Calls Tryd.prog 23 #[.float .f64 b] w fun e w' => e = .returned (.string (textW (bitsW b))) ∧ w' = w := by
  have hl := bitsW_lt b hb
  unfold textW
  by_cases h1 : bitsW b = 9221120237041090561
  · rw [if_pos h1]
    exact rtext_sp1 b hb h1 w
  by_cases h2 : bitsW b = 9218868437227405312
  · rw [if_neg h1, if_pos h2]
    exact rtext_sp2 b hb h2 w
  by_cases h3 : bitsW b = 18442240474082181120
  · rw [if_neg h1, if_neg h2, if_pos h3]
    exact rtext_sp3 b hb h3 w
  by_cases h4 : bitsW b = 0
  · rw [if_neg h1, if_neg h2, if_neg h3, if_pos h4]
    exact rtext_sp4 b hb h4 w
  by_cases h5 : bitsW b = 9223372036854775808
  · rw [if_neg h1, if_neg h2, if_neg h3, if_neg h4, if_pos h5]
    exact rtext_sp5 b hb h5 w
  rw [if_neg h1, if_neg h2, if_neg h3, if_neg h4, if_neg h5]
  exact rtext_num b hb (bitsW b) rfl hl (by simpa using (by omega : ¬ ((bitsW b : Int) = 9221120237041090561))) (by simpa using (by omega : ¬ ((bitsW b : Int) = 9218868437227405312))) (by simpa using (by omega : ¬ ((bitsW b : Int) = 18442240474082181120))) (by simpa using (by omega : ¬ ((bitsW b : Int) = 0))) (by simpa using (by omega : ¬ ((bitsW b : Int) = 9223372036854775808))) w
end Fu
end Go.Proofs.YtdibokeinmhmbaaDoor
