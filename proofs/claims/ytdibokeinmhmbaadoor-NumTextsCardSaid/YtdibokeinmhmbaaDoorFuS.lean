/- num.special: the map of the five special numbers. -/
import Derived.Test.YtdibokeinmhmbaaDoorFuN
import Derived.Test.YtdibokeinmhmbaaDoorFuJ
import Derived.Maps.OwnSet
import Derived.Carry
namespace Go.Proofs.YtdibokeinmhmbaaDoor
open Go.RowKit Go.ChangeShapes Go.WideShapes Go.ChangeAt Go.WideMaps Go.Maps
set_option linter.unusedVariables false
namespace Fu
open _root_.Go.Proofs.YtdibokeinmhmbaaDoor.Nm (bitsW canon_any mnan_any copysign_lit run_frombits)
/-- How a float lies in a map. -/
def fElem : Value → Option (DataW Unit × List MemPlace)
  | .float k b => some (.lit (.float k b), [])
  | _ => none
theorem fElem_inv {v : Value} {b : Nat} {ps : List MemPlace} (h : fElem v = some (.lit (.float .f64 b), ps)) : v = .float .f64 b := by
  cases v <;> simp [fElem] at h
  rw [h.1.1, h.1.2]
def specials : List (Lit × DataW Unit) := [(.string [45, 48], .lit (.float .f64 9223372036854775808)), (.string [45, 105, 110, 102], .lit (.float .f64 18442240474082181120)), (.string [48], .lit (.float .f64 0)), (.string [105, 110, 102], .lit (.float .f64 9218868437227405312)), (.string [110, 97, 110], .lit (.float .f64 9221120237041090561))]
theorem canon_nan (w : World) : Calls Tryd.prog 55 #[.float .f64 9221120237041090561] w fun e w' => e = .returned (.float .f64 9221120237041090561) ∧ w = w' := by
  have h := canon_any 9221120237041090561 w
  rw [show bitsW 9221120237041090561 = 9221120237041090561 from by decide +kernel] at h
  exact h
theorem inf_pos (w : World) : Calls Tryd.prog 62 #[.int .i64 1] w fun e w' => e = .returned (.float .f64 9218868437227405312) ∧ w = w' := by
  have h2 := fun b w => run_frombits b w
  go_enter Tryd.func62, Tryd.ntmps62
  go_wp2
  go_ret
  exact ⟨rfl, rfl⟩
theorem inf_neg (w : World) : Calls Tryd.prog 62 #[.int .i64 (-1)] w fun e w' => e = .returned (.float .f64 18442240474082181120) ∧ w = w' := by
  have h2 := fun b w => run_frombits b w
  go_enter Tryd.func62, Tryd.ntmps62
  go_wp2
  go_ret
  exact ⟨rfl, rfl⟩
theorem map_keyed : Keyed Tryd.prog 9 := string_keyed Tryd.underlying9
theorem key_of (s : ByteArray) (h : s.size ≤ maxLen) : keyOf Tryd.prog 9 (.string s) = some (.string s.data.toList) := keyOf_string_mk Tryd.underlying9 h
set_option maxRecDepth 100000 in
theorem special_any (w : World) : Calls Tryd.prog 40 #[] w fun e w' => ∃ b, e = .returned (.map (some b)) ∧ w'.ownsMap Tryd.prog 9 fElem b 5 (.map specials) ∧ Below w.heap.size w w' := by
  have own0 := World.ownsMap_made w Tryd.prog 9 fElem
  have hb0 : Below w.heap.size w (w.alloc (.map #[] 0)) := (Below.refl _ _).alloc (Nat.le_refl _) _
  obtain ⟨W1, hr1, own1, ht1⟩ := own0.store map_keyed Tryd.underlying62 (by decide) (key := .string ⟨#[110, 97, 110]⟩) (key_of ⟨#[110, 97, 110]⟩ (by decide)) (val := .float .f64 9221120237041090561) (d := .lit (.float .f64 9221120237041090561)) (ps := []) rfl
  have hb1 := hb0.grown ht1.grown (by simp) (fun k hk => by cases hk; exact Nat.le_refl _)
  have hz1 := hb1.size
  obtain ⟨W2, hr2, own2, ht2⟩ := own1.store map_keyed Tryd.underlying62 (by decide) (key := .string ⟨#[105, 110, 102]⟩) (key_of ⟨#[105, 110, 102]⟩ (by decide)) (val := .float .f64 9218868437227405312) (d := .lit (.float .f64 9218868437227405312)) (ps := []) rfl
  have hb2 := hb1.grown ht2.grown hz1 (fun k hk => by cases hk; exact Nat.le_refl _)
  have hz2 := hb2.size
  obtain ⟨W3, hr3, own3, ht3⟩ := own2.store map_keyed Tryd.underlying62 (by decide) (key := .string ⟨#[45, 105, 110, 102]⟩) (key_of ⟨#[45, 105, 110, 102]⟩ (by decide)) (val := .float .f64 18442240474082181120) (d := .lit (.float .f64 18442240474082181120)) (ps := []) rfl
  have hb3 := hb2.grown ht3.grown hz2 (fun k hk => by cases hk; exact Nat.le_refl _)
  have hz3 := hb3.size
  obtain ⟨W4, hr4, own4, ht4⟩ := own3.store map_keyed Tryd.underlying62 (by decide) (key := .string ⟨#[48]⟩) (key_of ⟨#[48]⟩ (by decide)) (val := .float .f64 0) (d := .lit (.float .f64 0)) (ps := []) rfl
  have hb4 := hb3.grown ht4.grown hz3 (fun k hk => by cases hk; exact Nat.le_refl _)
  have hz4 := hb4.size
  obtain ⟨W5, hr5, own5, ht5⟩ := own4.store map_keyed Tryd.underlying62 (by decide) (key := .string ⟨#[45, 48]⟩) (key_of ⟨#[45, 48]⟩ (by decide)) (val := .float .f64 9223372036854775808) (d := .lit (.float .f64 9223372036854775808)) (ps := []) rfl
  have hb5 := hb4.grown ht5.grown hz4 (fun k hk => by cases hk; exact Nat.le_refl _)
  have OWN : Hid (W5.ownsMap Tryd.prog 9 fElem w.heap.size 5 (.map specials)) := Lib.hid own5
  have HB := Lib.hid hb5
  clear own0 own1 own2 own3 own4 own5 ht1 ht2 ht3 ht4 ht5 hb0 hb1 hb2 hb3 hb4 hb5 hz1 hz2 hz3 hz4
  have hmm := @run_makeMap Tryd.prog
  go_enter Tryd.func40, Tryd.ntmps40
  go_wp2_with (first
    | (go_at_call 45; refine (mnan_any _).mono ?_; rintro e w' ⟨rfl, rfl⟩)
    | (go_at_call 55; refine (canon_nan _).mono ?_; rintro e w' ⟨rfl, rfl⟩)
    | (go_at_call 43; refine (copysign_lit _).mono ?_; rintro e w' ⟨rfl, rfl⟩)
    | (go_at_call 62; (first | refine (inf_pos _).mono ?_ | refine (inf_neg _).mono ?_); rintro e w' ⟨rfl, rfl⟩))
  go_ret
  exact ⟨_, rfl, OWN.out, HB.out⟩
/-- What a string finds there. -/
def findS (s : ByteArray) : Option Nat :=
  if s = ⟨#[110, 97, 110]⟩ then some 9221120237041090561 else if s = ⟨#[105, 110, 102]⟩ then some 9218868437227405312 else if s = ⟨#[45, 105, 110, 102]⟩ then some 18442240474082181120 else if s = ⟨#[48]⟩ then some 0 else if s = ⟨#[45, 48]⟩ then some 9223372036854775808 else none
theorem look_any (w : World) (b : Nat) (own : w.ownsMap Tryd.prog 9 fElem b 5 (.map specials)) (s : ByteArray) (hs : s.size ≤ maxLen) :
    (Instr.lookup 62 (.map (some b)) (.string s) true).run Tryd.prog w = .ok (.tuple #[.float .f64 ((findS s).getD 0), .bool (findS s).isSome]) w := by
  obtain ⟨v, ps, hrun, hv⟩ := own.look_ok map_keyed Tryd.underlying62 (z := .float .f64 0) (Tryd.zeroValue23 w) (zd := .lit (.float .f64 0)) (zp := []) rfl (key_of s hs)
  rw [hrun]
  have key : ∀ l : List UInt8, s ≠ ⟨l.toArray⟩ → (Lit.string l).sameKey (.string s.data.toList) = false := by
    intro l hl
    show (l == s.data.toList) = false
    rw [beq_eq_false_iff_ne]
    intro h
    apply hl
    apply ByteArray.ext
    show s.data = l.toArray
    rw [h]
  unfold findS
  by_cases h1 : s = ⟨#[110, 97, 110]⟩
  · subst h1
    have hv1 : v = .float .f64 9221120237041090561 := fElem_inv (ps := ps) (hv.trans rfl)
    rw [hv1]
    rfl
  · rw [if_neg h1]
    by_cases h2 : s = ⟨#[105, 110, 102]⟩
    · subst h2
      have hv1 : v = .float .f64 9218868437227405312 := fElem_inv (ps := ps) (hv.trans rfl)
      rw [hv1]
      rfl
    · rw [if_neg h2]
      by_cases h3 : s = ⟨#[45, 105, 110, 102]⟩
      · subst h3
        have hv1 : v = .float .f64 18442240474082181120 := fElem_inv (ps := ps) (hv.trans rfl)
        rw [hv1]
        rfl
      · rw [if_neg h3]
        by_cases h4 : s = ⟨#[48]⟩
        · subst h4
          have hv1 : v = .float .f64 0 := fElem_inv (ps := ps) (hv.trans rfl)
          rw [hv1]
          rfl
        · rw [if_neg h4]
          by_cases h5 : s = ⟨#[45, 48]⟩
          · subst h5
            have hv1 : v = .float .f64 9223372036854775808 := fElem_inv (ps := ps) (hv.trans rfl)
            rw [hv1]
            rfl
          · rw [if_neg h5]
            have k1 := key [110, 97, 110] h1
            have k2 := key [105, 110, 102] h2
            have k3 := key [45, 105, 110, 102] h3
            have k4 := key [48] h4
            have k5 := key [45, 48] h5
            have hh : Maps.has (DataW.map specials) (.string s.data.toList) = false := by simp [Maps.has, specials, k1, k2, k3, k4, k5]
            have ha : (DataW.map specials).atKey (.string s.data.toList) (.lit (.float .f64 0)) = .lit (.float .f64 0) := by simp [DataW.atKey, specials, List.find?, k1, k2, k3, k4, k5]
            rw [ha] at hv
            have hv1 : v = .float .f64 0 := fElem_inv (ps := ps) hv
            rw [hh, hv1]
            rfl
end Fu
end Go.Proofs.YtdibokeinmhmbaaDoor
