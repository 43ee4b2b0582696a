/- The reference's First; TrailingZeros64 and First. -/
import Derived.Test.YtkjlfoihojfnbaaDoorLoE
import Derived.Test.YtkjlfoihojfnbaaDoorLoA
import Derived.Shelf.Spec.TrailingZeros
namespace Go.Proofs.YtkjlfoihojfnbaaDoor
open Go.RowKit
set_option linter.unusedVariables false
set_option linter.unusedSimpArgs false
namespace Lo
open Lv (W64 slotOf slotOf_lt fresh ret_int ret_bool slot_any rslot_any)
open Ln (lvCells LV upd only_set only_refl only_drew)
/-- r is the first one from a on with P, below 64; -1 if there is none. -/
def IsFirst (P : Nat → Prop) (a : Nat) (r : Int) : Prop := (r = -1 ∧ ∀ s, a ≤ s → s < 64 → ¬ P s) ∨ ∃ s : Nat, r = s ∧ a ≤ s ∧ s < 64 ∧ P s ∧ ∀ t, a ≤ t → t < s → ¬ P t
theorem IsFirst.same {P : Nat → Prop} {a : Nat} {r r' : Int} (h : IsFirst P a r) (h' : IsFirst P a r') : r = r' := by
  rcases h with ⟨h1, h2⟩ | ⟨s, h1, h2, h3, h4, h5⟩
  · rcases h' with ⟨q1, q2⟩ | ⟨t, q1, q2, q3, q4, q5⟩
    · omega
    · exact absurd q4 (h2 t q2 q3)
  · rcases h' with ⟨q1, q2⟩ | ⟨t, q1, q2, q3, q4, q5⟩
    · exact absurd h4 (q2 s h2 h3)
    · rcases Nat.lt_trichotomy s t with e | e | e
      · exact absurd h4 (q5 s h2 e)
      · omega
      · exact absurd q4 (h5 t q2 e)
theorem IsFirst.congr {P Q : Nat → Prop} {a : Nat} {r : Int} (h : IsFirst P a r) (hpq : ∀ s, s < 64 → (P s ↔ Q s)) : IsFirst Q a r := by
  rcases h with ⟨h1, h2⟩ | ⟨s, h1, h2, h3, h4, h5⟩
  · exact .inl ⟨h1, fun s a b c => h2 s a b ((hpq s b).2 c)⟩
  · exact .inr ⟨s, h1, h2, h3, (hpq s h3).1 h4, fun t a b c => h5 t a b ((hpq t (by omega)).2 c)⟩
theorem first_bits (m a : Nat) (hm : m < 18446744073709551616) (h : m >>> a ≠ 0) : a + Lib.ctz 64 (m >>> a) < 64 ∧ IsFirst (fun s => m.testBit s = true) a ((a + Lib.ctz 64 (m >>> a) : Nat) : Int) := by
  have hlt : m >>> a < 2 ^ 64 := Nat.lt_of_le_of_lt (Nat.shiftRight_le m a) hm
  have hc : Lib.ctz 64 (m >>> a) = Lib.ctzFrom 64 (m >>> a) := by unfold Lib.ctz; rw [if_neg h]
  obtain ⟨q, hq, hq2⟩ := Lib.ctzFrom_spec 64 (m >>> a) (Nat.pos_of_ne_zero h) hlt
  rw [hc]
  generalize Lib.ctzFrom 64 (m >>> a) = c at *
  have hb : ∀ j, m.testBit (a + j) = (2 ^ c * (2 * q + 1)).testBit j := fun j => by rw [← hq, Nat.testBit_shiftRight]
  have hbc : m.testBit (a + c) = true := by
    rw [hb c, Nat.testBit_two_pow_mul]; simp
  have hbl : ∀ j, j < c → m.testBit (a + j) = false := fun j hj => by
    rw [hb j, Nat.testBit_two_pow_mul]; simp; omega
  have hlt2 : a + c < 64 := by
    rcases Nat.lt_or_ge (a + c) 64 with e | e
    · exact e
    · have := Nat.testBit_lt_two_pow (Nat.lt_of_lt_of_le (show m < 2 ^ 64 from hm) (Nat.pow_le_pow_right (by omega) e))
      rw [this] at hbc; cases hbc
  refine ⟨hlt2, .inr ⟨a + c, rfl, by omega, hlt2, hbc, fun t h1 h2 => ?_⟩⟩
  have := hbl (t - a) (by omega)
  rw [show a + (t - a) = t by omega] at this
  show ¬ (m.testBit t = true)
  rw [this]; decide
theorem first_none (m a : Nat) (h : m >>> a = 0) : IsFirst (fun s => m.testBit s = true) a (-1) := by
  refine .inl ⟨rfl, fun s h1 _ => ?_⟩
  have : (m >>> a).testBit (s - a) = m.testBit s := by rw [Nat.testBit_shiftRight]; congr 1; omega
  show ¬ (m.testBit s = true)
  rw [← this, h]; simp
/-- Slot s has items. -/
def HasS (k : Nat) (l : List (Nat × Nat)) (s : Nat) : Prop := (l.filter fun x => decide ((slotOf k x.2 : Int) = (s : Int))) ≠ []
set_option maxRecDepth 100000 in
set_option maxHeartbeats 2000000 in
theorem rfirst_any (k : Nat) (hk : k ≤ 3) (l : List (Nat × Nat)) (ha : ∀ x ∈ l, x.2 < 18446744073709551616) (hl : l.length ≤ 1000) (v : Value) (a : Int) (h0 : -9223372036854775808 ≤ a) (h1 : a ≤ 9223372036854775807) (w : World) (lies : Lies w v l) :
    Calls Tryd.prog 21 #[.int .i64 k, v, .int .i64 a] w fun e w' => (∃ r, e = .returned (.int .i64 r) ∧ IsFirst (HasS k l) a.toNat r) ∧ Below w.heap.size w w' := by
  have HOF := Lib.hid fun (s : Int) (W : World) (hb : Below w.heap.size w W) => rof_any k hk l ha hl v s W (lies.later hb)
  obtain ⟨s0, hs0⟩ : ∃ s0 : Nat, s0 = a.toNat := ⟨_, rfl⟩
  have hs0' : (s0 : Int) ≤ 9223372036854775807 := by omega
  rw [← hs0]
  have hcase : (a < 0 ∧ s0 = 0) ∨ (0 ≤ a ∧ a = s0) := by omega
  clear hs0 lies
  go_enter Tryd.func21, Tryd.ntmps21
  rcases hcase with ⟨ha1, hs1⟩ | ⟨ha1, rfl⟩
  all_goals
    try have HS1 := Lib.hid hs1
    try clear hs1
    go_wp2_with fail
    go_loopw [7] (fun vj wr => ∃ s : Nat, vj = .int .i64 (s : Int) ∧ s0 ≤ s ∧ (s ≤ 64 ∨ s = s0) ∧ Hid (∀ t, s0 ≤ t → t < s → ¬ HasS k l t) ∧ Below w.heap.size w wr) (fun vj _ => 65 - (intOf vj).toNat)
    case atStart =>
      first
        | exact ⟨0, rfl, by have := HS1.out; omega, .inl (by omega), Lib.hid (fun t h1 h2 => by omega), Below.refl _ _⟩
        | exact ⟨s0, rfl, Nat.le_refl _, .inr rfl, Lib.hid (fun t h1 h2 => by omega), Below.refl _ _⟩
    case round =>
      obtain ⟨s, rfl, hs, hs64, HN, hbr⟩ := hrel
      rename_i wr
      have HBR := Lib.hid hbr
      by_cases hlt : s < 64
      · have hlt' : (s : Int) < 64 := by omega
        have HO := Lib.hid (HOF.out s wr hbr)
        obtain ⟨q, hq⟩ : ∃ q, q = l.filter (fun x => decide ((slotOf k x.2 : Int) = (s : Int))) := ⟨_, rfl⟩
        rw [← hq] at HO
        have HQ := Lib.hid hq
        have HS64 := Lib.hid hs64
        clear hbr hq hs64
        rcases (by omega : q.length = 0 ∨ 0 < q.length) with hq0 | hq0
        · have HNN : Hid (∀ t, s0 ≤ t → t < s + 1 → ¬ HasS k l t) := Lib.hid fun t h1 h2 => by
            rcases (by omega : t < s ∨ t = s) with h | h
            · exact HN.out t h1 h
            · subst h
              unfold HasS
              rw [← HQ.out]
              exact fun e => e (List.eq_nil_of_length_eq_zero hq0)
          go_wp2_with fail
          refine HO.out.mono ?_
          rintro e w1 ⟨v1, rfl, row1, hb1⟩
          obtain ⟨A1, cap1, rfl, hcap1, -⟩ := row1.opened
          have HB1 := Lib.hid (HBR.out.trans (hb1.mono HBR.out.size))
          rw [hq0]
          clear row1 hb1
          go_wp2_with fail
          exact ⟨⟨s + 1, rfl, by omega, .inl (by omega), HNN, HB1.out⟩, by simp [intOf]; omega⟩
        · have hq1 : (0 : Int) < q.length := by omega
          go_wp2_with fail
          refine HO.out.mono ?_
          rintro e w1 ⟨v1, rfl, row1, hb1⟩
          obtain ⟨A1, cap1, rfl, hcap1, -⟩ := row1.opened
          have HB1 := Lib.hid (HBR.out.trans (hb1.mono HBR.out.size))
          clear row1 hb1
          go_wp2_with fail
          go_ret
          exact ⟨⟨_, rfl, .inr ⟨s, rfl, hs, hlt, by unfold HasS; rw [← HQ.out]; exact fun e => by rw [e] at hq0; exact absurd hq0 (by simp), HN.out⟩⟩, HB1.out⟩
      · have hlt' : ¬ ((s : Int) < 64) := by omega
        have HS64 := Lib.hid hs64
        clear hbr hs64
        go_wp2_with fail
        go_ret
        exact ⟨⟨_, rfl, .inl ⟨rfl, fun t h1 h2 => HN.out t h1 (by rcases HS64.out with h | h <;> omega)⟩⟩, HBR.out⟩
set_option maxRecDepth 100000 in
set_option maxHeartbeats 1000000 in
theorem tz_core (x k idx : Nat) (w : World) (hx0 : ((x : Int) == 0) = false)
    (key : IntKind.u64.wrap (bits BinOp.and IntKind.u64 (x : Int) (IntKind.u64.wrap (-(x : Int))) * 285870213051353865) / 288230376151711744 = (idx : Int))
    (hi : idx < 64) (hk : k < 64) (hcell : w.cell? ⟨0, idx, none⟩ = some (.int .u8 k)) :
    Calls Tryd.prog 46 #[.int .u64 x] w fun e w' => e = .returned (.int .i64 k) ∧ w' = w := by
  go_enter Tryd.func46, Tryd.ntmps46
  go_wp2_with (simp only [key])
  go_ret
  exact ⟨rfl, rfl⟩
/-- The table of the trailing zeros. -/
def Deb (w : World) : Prop := TabAt 0 Lib.deBruijn64tab w ∧ 0 < w.heap.size
theorem Deb.later {w w' : World} (h : Deb w) (hb : Below w.heap.size w w') : Deb w' :=
  ⟨fun j hj => (hb.cell (p := ⟨0, j, none⟩) h.2).trans (h.1 j hj), Nat.lt_of_lt_of_le h.2 hb.size⟩
theorem tz_any (x : Nat) (hx : x < 18446744073709551616) (hx0 : x ≠ 0) (w : World) (hd : Deb w) :
    Calls Tryd.prog 46 #[.int .u64 x] w fun e w' => e = .returned (.int .i64 (Lib.ctz 64 x : Nat)) ∧ w' = w := by
  obtain ⟨hlow, hk⟩ := Lib.lowest_bit 64 x hx0 hx
  obtain ⟨hi, htab⟩ := Lib.deBruijn64_at _ hk
  have hcell := hd.1 _ hi
  rw [htab] at hcell
  exact tz_core x _ _ w (by simp; omega) (tz64_key x _ hx hx0 hlow) hi hk hcell
variable {w : World} {b k : Nat} {f : Nat → Value}
set_option maxRecDepth 100000 in
set_option maxHeartbeats 1000000 in
theorem first_any (m : Nat) (hm : m < 18446744073709551616) (a : Int) (h0 : -9223372036854775808 ≤ a) (h1 : a ≤ 9223372036854775807) (hd : Deb w) (r : LV w b k f m) :
    Calls Tryd.prog 20 #[.pointer (some ⟨b, 0, none⟩), .int .i64 a] w fun e w' => (∃ r, e = .returned (.int .i64 r) ∧ IsFirst (fun s => m.testBit s = true) a.toNat r) ∧ w' = w := by
  have c := r.marks
  by_cases ha : 64 ≤ a
  · have HF : Hid (IsFirst (fun s => m.testBit s = true) a.toNat (-1)) := Lib.hid (.inl ⟨rfl, fun s h1 h2 => by omega⟩)
    go_enter Tryd.func20, Tryd.ntmps20
    go_wp2_with fail
    go_ret
    exact ⟨⟨_, rfl, HF.out⟩, rfl⟩
  · obtain ⟨s0, hs0⟩ : ∃ s0 : Nat, s0 = a.toNat := ⟨_, rfl⟩
    have hs64 : s0 < 64 := by omega
    rw [← hs0]
    have ha' : a < 64 := by omega
    have HD := Lib.hid hd
    clear hd r
    rcases (by omega : (a < 0 ∧ s0 = 0) ∨ (0 ≤ a ∧ a = s0)) with ⟨ha1, hs1⟩ | ⟨ha1, hs1⟩
    · rw [hs1]
      clear hs0 hs1
      by_cases hm0 : m = 0
      · have HF : Hid (IsFirst (fun s => m.testBit s = true) 0 (-1)) := Lib.hid (first_none m 0 (by rw [hm0]; rfl))
        generalize (fun s => m.testBit s = true) = Z at *
        subst hm0
        go_enter Tryd.func20, Tryd.ntmps20
        go_wp2_with fail
        go_ret
        exact ⟨⟨_, rfl, HF.out⟩, rfl⟩
      · have hm1 : (0 : Int) < m := by omega
        have HFB := Lib.hid (first_bits m 0 hm (by simpa using hm0))
        have HT := Lib.hid (tz_any m hm hm0 w HD.out)
        rw [Nat.zero_add, Nat.shiftRight_zero] at HFB
        have hc64 := HFB.out.1
        generalize Lib.ctz 64 m = c at *
        have hne : ((m : Int) != 0) = true := by simp; omega
        go_enter Tryd.func20, Tryd.ntmps20
        go_wp2_with fail
        refine HT.out.mono ?_
        rintro e w1 ⟨rfl, rfl⟩
        go_wp2_with fail
        go_ret
        exact ⟨⟨_, rfl, HFB.out.2⟩, rfl⟩
    · subst hs1
      have hsh : (m : Int) / 2 ^ s0 = ((m >>> s0 : Nat) : Int) := by rw [Nat.shiftRight_eq_div_pow]; simp
      have hrlt : m >>> s0 < 18446744073709551616 := Nat.lt_of_le_of_lt (Nat.shiftRight_le m s0) hm
      clear hs0
      by_cases hm0 : m >>> s0 = 0
      · have HF := Lib.hid (first_none m s0 hm0)
        rw [hm0] at hsh
        generalize (fun s => m.testBit s = true) = Z at *
        go_enter Tryd.func20, Tryd.ntmps20
        go_wp2_with fail
        go_ret
        exact ⟨⟨_, rfl, HF.out⟩, rfl⟩
      · have HFB := Lib.hid (first_bits m s0 hm hm0)
        have HT := Lib.hid (tz_any (m >>> s0) hrlt hm0 w HD.out)
        have hc64 := HFB.out.1
        generalize Lib.ctz 64 (m >>> s0) = c at *
        generalize m >>> s0 = r at *
        have hne : ((r : Int) != 0) = true := by simp; omega
        have hr1 : (0 : Int) < r := by omega
        go_enter Tryd.func20, Tryd.ntmps20
        go_wp2_with fail
        refine HT.out.mono ?_
        rintro e w1 ⟨rfl, rfl⟩
        go_wp2_with fail
        go_ret
        exact ⟨⟨_, rfl, HFB.out.2⟩, rfl⟩
end Lo
end Go.Proofs.YtkjlfoihojfnbaaDoor
