/- NumTexts and NumParses: the walks. -/
import Derived.Test.YtdibokeinmhmbaaDoorFuW
import Derived.ShutString
import Derived.OpenShut
namespace Go.Proofs.YtdibokeinmhmbaaDoor
open Go.RowKit
set_option linter.unusedVariables false
namespace Fu
open _root_.Go.Proofs.YtdibokeinmhmbaaDoor.Nm (bitsW bitsW_lt run_frombits rsame_any)
theorem PRes.of_text {b g : Nat} {ok : Bool} (hb : b < 18446744073709551616) (h : PRes (textW (bitsW b)) g ok) : ok = true ∧ bitsW b = bitsW g ∧ g < 18446744073709551616 := by
  obtain ⟨h1, h2, h3⟩ := h
  cases ok with
  | false => exact absurd rfl ((h3 rfl).2 b hb)
  | true => exact ⟨rfl, (textW_inj _ _ (bitsW_lt g h1) (bitsW_lt b hb) (h2 rfl)).symm, h1⟩
set_option maxRecDepth 100000 in
theorem numtexts_any (b : Nat) (hb : b < 18446744073709551616) (w : World) (ht : Tabs w) (he : Errs w) :
    Calls Tryd.prog 5 #[.int .u64 b] w fun e w' => e = .returned (.bool true) ∧ Below w.heap.size w w' := by
  have hr := fun b w => run_frombits b w
  have HA := Lib.hid Nm.alive_any
  have HT := Lib.hid (ntext_any b hb w ht.2.1 ht.2.2)
  have HRT := Lib.hid (fun W => rtext_any b hb W)
  have HP : Hid (∀ W, Below w.heap.size w W → Calls Tryd.prog 21 #[.string (textW (bitsW b))] W fun e w' => (∃ f ok, e = .returned (.tuple #[.float .f64 f, .bool ok]) ∧ ok = true ∧ bitsW b = bitsW f ∧ f < 18446744073709551616) ∧ Below W.heap.size W w') := Lib.hid fun W hW =>
    (parse_any _ (Nat.le_trans (textW_size _) (by omega)) W (ht.later hW) (he.later hW)).mono fun e w' ⟨⟨f, ok, h1, h2⟩, hb2⟩ => ⟨⟨f, ok, h1, h2.of_text hb⟩, hb2⟩
  have HSM : Hid (∀ (f : Nat) (W : World), bitsW b = bitsW f → f < 18446744073709551616 → Calls Tryd.prog 9 #[.float .f64 b, .float .f64 f] W fun e w' => e = .returned (.bool true) ∧ W = w') := Lib.hid fun f W h1 h2 => by
    have h := rsame_any b f hb h2 W
    rw [h1] at h
    rw [show ((bitsW f : Int) == (bitsW f : Int)) = true from beq_self_eq_true _] at h
    exact h
  generalize textW (bitsW b) = s at *
  clear hb ht he
  go_enter Tryd.func5, Tryd.ntmps5
  go_wp2_with fail
  refine HT.out.mono ?_
  rintro e w1 ⟨rfl, hb1⟩
  have HB1 := Lib.hid hb1
  clear hb1
  go_wp2_with fail
  refine (HP.out _ HB1.out).mono ?_
  rintro e w2 ⟨⟨f, ok, rfl, rfl, h1, h2⟩, hb2⟩
  have HB2 := Lib.hid (HB1.out.trans (hb2.mono HB1.out.size))
  have HS2 := Lib.hid (HSM.out f · h1 h2)
  clear hb2 h1 h2
  go_wp2_with fail
  refine (HA.out _).mono ?_
  rintro e w3 ⟨rfl, rfl⟩
  go_wp2_with fail
  refine (HRT.out _).mono ?_
  rintro e w3 ⟨rfl, rfl⟩
  go_wp2_with fail
  refine (HS2.out _).mono ?_
  rintro e w3 ⟨rfl, rfl⟩
  go_wp2_with fail
  go_ret
  exact ⟨rfl, HB2.out⟩
set_option maxRecDepth 100000 in
theorem numparses_long (s : ByteArray) (hs : 100 < s.size) (w : World) :
    Calls Tryd.prog 6 #[.string s] w fun e w' => e = .returned (.bool true) ∧ Below w.heap.size w w' := by
  have HA := Lib.hid Nm.alive_any
  have hs' : (100 : Int) < s.size := by omega
  clear hs
  go_enter Tryd.func6, Tryd.ntmps6
  go_wp2_with fail
  refine (HA.out _).mono ?_
  rintro e w3 ⟨rfl, rfl⟩
  go_wp2_with fail
  go_ret
  exact ⟨rfl, Below.refl _ _⟩
set_option maxRecDepth 100000 in
theorem numparses_short (s : ByteArray) (hs : s.size ≤ 100) (w : World) (ht : Tabs w) (he : Errs w) :
    Calls Tryd.prog 6 #[.string s] w fun e w' => e = .returned (.bool true) ∧ Below w.heap.size w w' := by
  have HA := Lib.hid Nm.alive_any
  have HP := Lib.hid (parse_any s (by omega) w ht he)
  have HRP := Lib.hid (fun W => rparse_any s (by omega) W)
  have HSM : Hid (∀ (f g : Nat) (a b : Bool) (W : World), PRes s f a → PRes s g b → Calls Tryd.prog 9 #[.float .f64 f, .float .f64 g] W fun e w' => e = .returned (.bool true) ∧ W = w') := Lib.hid fun f g a b W h1 h2 => by
    have h := rsame_any f g h1.1 h2.1 W
    rw [(h1.unique h2).1] at h
    rw [show ((bitsW g : Int) == (bitsW g : Int)) = true from beq_self_eq_true _] at h
    exact h
  have HT : Hid (∀ (f : Nat) (W : World), PRes s f true → Below w.heap.size w W → Calls Tryd.prog 20 #[.float .f64 f] W fun e w' => e = .returned (.string s) ∧ Below W.heap.size W w') := Lib.hid fun f W h hW => by
    have h1 := ntext_any f h.1 W (ht.later hW).2.1 (ht.later hW).2.2
    rw [h.2.1 rfl] at h1
    exact h1
  have hs' : (s.size : Int) ≤ 100 := by omega
  clear hs ht he
  go_enter Tryd.func6, Tryd.ntmps6
  go_wp2_with fail
  refine HP.out.mono ?_
  rintro e w1 ⟨⟨f, a, rfl, hp⟩, hb1⟩
  have HB1 := Lib.hid hb1
  have HPF := Lib.hid hp
  clear hb1 hp HP
  go_wp2_with fail
  refine (HRP.out _).mono ?_
  rintro e w2 ⟨⟨g, b, rfl, hp⟩, hb2⟩
  obtain rfl := (HPF.out.unique hp).2
  have HB2 := Lib.hid (HB1.out.trans (hb2.mono HB1.out.size))
  have HS2 := Lib.hid (HSM.out f g a a · HPF.out hp)
  clear hb2 hp HRP HSM
  go_wp2_with fail
  refine (HA.out _).mono ?_
  rintro e w3 ⟨rfl, rfl⟩
  go_wp2_with fail
  refine (HS2.out _).mono ?_
  rintro e w3 ⟨rfl, rfl⟩
  cases a with
  | false =>
    go_wp2_with fail
    go_ret
    exact ⟨rfl, HB2.out⟩
  | true =>
    go_wp2_with fail
    refine (HT.out f _ HPF.out HB2.out).mono ?_
    rintro e w3 ⟨rfl, hb3⟩
    have HB3 := Lib.hid (HB2.out.trans (hb3.mono HB2.out.size))
    clear hb3
    go_wp2_with fail
    go_ret
    exact ⟨by simp, HB3.out⟩
end Fu
end Go.Proofs.YtdibokeinmhmbaaDoor
