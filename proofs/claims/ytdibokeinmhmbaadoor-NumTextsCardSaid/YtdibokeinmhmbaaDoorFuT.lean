/- internal/strconv.ParseUint at base 16, of any short string: some number and an error or none; of 1 to 16 small hexadecimal digits: their number and no error. -/
import Derived.Test.YtdibokeinmhmbaaDoorFuS
import Derived.Test.YtdibokeinmhmbaaDoorFuO
import Derived.Lib.AtoiErrMem
import Derived.Laws.Closers25b
import Derived.BigGuard
namespace Go.Proofs.YtdibokeinmhmbaaDoor
open Go.RowKit
set_option linter.unusedVariables false
namespace Fu
def lowhex (c : UInt8) : Prop := (48 ≤ c.toNat ∧ c.toNat ≤ 57) ∨ (97 ≤ c.toNat ∧ c.toNat ≤ 102)
def hv (c : UInt8) : Nat := if c.toNat ≤ 57 then c.toNat - 48 else c.toNat - 87
def goodH (l : List UInt8) : Prop := 1 ≤ l.length ∧ l.length ≤ 16 ∧ ∀ c ∈ l, lowhex c
def hexval (l : List UInt8) : Nat := l.foldl (fun a c => a * 16 + hv c) 0
theorem hexval_succ (l : List UInt8) (k : Nat) (h : k < l.length) : hexval (l.take (k + 1)) = hexval (l.take k) * 16 + hv l[k] := by
  unfold hexval
  rw [List.take_succ_eq_append_getElem h, List.foldl_append]
  rfl
theorem hv_lt (c : UInt8) (h : lowhex c) : hv c < 16 := by
  unfold lowhex at h; unfold hv; split <;> omega
theorem hexval_lt (l : List UInt8) (h : ∀ c ∈ l, lowhex c) : ∀ k, k ≤ l.length → hexval (l.take k) < 16 ^ k
  | 0, _ => by simp [hexval]
  | k + 1, hk => by
    have ih := hexval_lt l h k (by omega)
    rw [hexval_succ l k (by omega), Nat.pow_succ]
    have := hv_lt l[k] (h _ (List.getElem_mem _))
    omega
theorem or32 (x : Nat) (h : 97 ≤ x ∧ x ≤ 102) : bits BinOp.or IntKind.u8 (x : Int) 32 = x := by
  rcases (by omega : x = 97 ∨ x = 98 ∨ x = 99 ∨ x = 100 ∨ x = 101 ∨ x = 102) with rfl | rfl | rfl | rfl | rfl | rfl <;> decide
theorem lower_any (c : Int) (w : World) : Calls Tryd.prog 77 #[.int .u8 c] w fun e w' => e = .returned (.int .u8 (bits BinOp.or IntKind.u8 c 32)) ∧ w = w' := by
  go_enter Tryd.func77, Tryd.ntmps77
  go_wp2
  go_ret
  exact ⟨rfl, rfl⟩
/-- What ParseUint gives. -/
def PuOut (l : List UInt8) (w : World) (e : Ending) (w' : World) : Prop :=
  ∃ (b : Int) (x : Value), e = .returned (.tuple #[.int .u64 b, x]) ∧ 0 ≤ b ∧ b < 18446744073709551616 ∧ (x = .nilIface ∨ x = .iface 104 (.int .i64 1) ∨ x = .iface 104 (.int .i64 2)) ∧ (goodH l → x = .nilIface ∧ b = hexval l) ∧ Below w.heap.size w w'
theorem PuOut.syntax {l : List UInt8} {w w' : World} (h : ¬ goodH l) (hb : Below w.heap.size w w') : PuOut l w (.returned (.tuple #[.int .u64 0, .iface 104 (.int .i64 2)])) w' :=
  ⟨_, _, rfl, by omega, by omega, .inr (.inr rfl), fun g => absurd g h, hb⟩
theorem PuOut.range {l : List UInt8} {w w' : World} (h : ¬ goodH l) (hb : Below w.heap.size w w') : PuOut l w (.returned (.tuple #[.int .u64 18446744073709551615, .iface 104 (.int .i64 1)])) w' :=
  ⟨_, _, rfl, by omega, by omega, .inr (.inl rfl), fun g => absurd g h, hb⟩
set_option maxRecDepth 100000 in
theorem pu16_empty (w : World) : Calls Tryd.prog 64 #[.string ⟨#[]⟩, .int .i64 16, .int .i64 64] w fun e w' => PuOut [] w e w' := by
  go_enter Tryd.func64, Tryd.ntmps64
  go_wp2
  go_ret2
  exact PuOut.syntax (by simp [goodH]) (Below.refl _ _)
set_option maxHeartbeats 8000000 in
set_option maxRecDepth 100000 in
theorem pu16_some (t : ByteArray) (hne : t.size ≠ 0) (hmax : t.size ≤ 1000) (w : World) :
    Calls Tryd.prog 64 #[.string t, .int .i64 16, .int .i64 64] w fun e w' => PuOut t.data.toList w e w' := by
  have hemp : t.toList.isEmpty = false := by
    rw [← decide_eq_emptyBytes]
    exact decide_eq_false (fun h => hne (by rw [h]; rfl))
  have hcv := Lib.run_convert_string_bytes (P := Tryd.prog) w 9 82 5 t (u := .string) Tryd.underlying9 Tryd.underlying82 Tryd.underlying5
  have hB : ∀ j, j < t.size → (Lib.bytesWorld w 5 t).cell? ⟨w.heap.size, j, none⟩ = some (.int .u8 (t.data.toList.getD j 0).toNat) := fun j hj => Lib.bytesWorld_cell w 5 t j hj
  have HBel : Hid (Below w.heap.size w (Lib.bytesWorld w 5 t)) := Lib.hid (Lib.bytesWorld_below w 5 t)
  obtain ⟨W1, hW1⟩ : ∃ W1, W1 = Lib.bytesWorld w 5 t := ⟨_, rfl⟩
  rw [← hW1] at hcv hB HBel
  clear hW1
  obtain ⟨bs, hL⟩ : ∃ bs, bs = t.data.toList := ⟨_, rfl⟩
  have hLn : bs.length = t.size := by rw [hL]; exact len_size t
  rw [← hL] at hB ⊢
  clear hL
  have hmv : IntKind.u64.wrap (IntKind.u64.wrap 18446744073709551616 - 1) = 18446744073709551615 := by
    rw [IntKind.wrap_u64, IntKind.wrap_u64]
    decide
  go_enter Tryd.func64, Tryd.ntmps64
  go_wp2
  go_loop [12, 13, 101] (fun vu vn vi => ∃ (k : Nat) (a : Int), vu = .bool false ∧ vn = .int .u64 a ∧ vi = .int .i64 k ∧ k ≤ t.size ∧ 0 ≤ a ∧ a < 18446744073709551616 ∧ Hid (goodH bs → a = hexval (bs.take k)))
    (fun _ _ vi => t.size - (intOf vi).toNat)
  case atStart => exact ⟨0, 0, rfl, rfl, rfl, by omega, by omega, by omega, Lib.hid (fun _ => rfl)⟩
  case round =>
    obtain ⟨k, a, rfl, rfl, rfl, hk, a0, a1, HH⟩ := hrel
    by_cases hkn : k < t.size
    · have hc := hB k hkn
      have hget : bs.getD k 0 = bs[k]'(by omega) := by simp [List.getD, List.getElem?_eq_getElem (show k < bs.length by omega)]
      rw [hget] at hc
      have HLow : Hid (goodH bs → lowhex (bs[k]'(by omega))) := Lib.hid (fun g => g.2.2 _ (List.getElem_mem _))
      have HSt : Hid (hexval (bs.take (k + 1)) = hexval (bs.take k) * 16 + hv (bs[k]'(by omega))) := Lib.hid (hexval_succ bs k (by omega))
      have HLt : Hid (goodH bs → hexval (bs.take k) < 1152921504606846976) := Lib.hid (fun g => by
        have h1 := hexval_lt bs g.2.2 k (by omega)
        have h2 := g.2.1
        have h3 : 16 ^ k ≤ 16 ^ 15 := Nat.pow_le_pow_right (by omega) (by omega)
        omega)
      generalize bs[k]'(by omega) = c at hc HLow HSt
      have hc256 : c.toNat < 256 := c.toNat_lt
      obtain ⟨ci, hci⟩ : ∃ ci : Int, ci = (c.toNat : Int) := ⟨_, rfl⟩
      rw [← hci] at hc
      have HCI := Lib.hid hci
      have c0 : 0 ≤ ci := by omega
      have c1 : ci < 256 := by omega
      clear hB hget hc256 hci
      by_cases hdig : 48 ≤ ci ∧ ci ≤ 57
      · obtain ⟨hd0, hd1⟩ := hdig
        by_cases hcut : 1152921504606846976 ≤ a
        · have HN : Hid (¬ goodH bs) := Lib.hid (fun g => by have h1 := HH.out g; have h2 := HLt.out g; omega)
          go_wp2
          go_ret2
          exact PuOut.range HN.out HBel.out
        · have icut : a < 1152921504606846976 := by omega
          have HNx : Hid (goodH bs → a * 16 + (ci - 48) = hexval (bs.take (k + 1))) := Lib.hid (fun g => by
            rw [HSt.out]
            have h1 := HH.out g
            have h2 := HCI.out
            unfold hv
            rw [if_pos (by omega)]
            omega)
          clear hcut
          go_wp2
          refine ⟨⟨k + 1, a * 16 + (ci - 48), rfl, (by first | rfl | (congr 1; omega)), (by first | rfl | (congr 1; omega)), by omega, by omega, by omega, HNx⟩, by simp [intOf]; omega⟩
      · have HL2 : Hid (bits BinOp.or IntKind.u8 ci 32 = bits BinOp.or IntKind.u8 (c.toNat : Int) 32) := Lib.hid (by rw [HCI.out])
        have hv0 := bits_lo_u8 .or ci 32
        have hv1 := bits_hi_u8 .or ci 32
        by_cases h95 : ci = 95
        · have HN : Hid (¬ goodH bs) := Lib.hid (fun g => by have h1 := HLow.out g; unfold lowhex at h1; have h2 := HCI.out; omega)
          subst h95
          have e127 : bits BinOp.or IntKind.u8 95 32 = 127 := by decide
          clear hdig
          go_wp2_with (go_at_call 77; refine (lower_any _ _).mono ?_; rintro e w' ⟨rfl, rfl⟩)
          go_ret2
          exact PuOut.syntax HN.out HBel.out
        · have LA := fun w => lower_any ci w
          generalize hl : bits BinOp.or IntKind.u8 ci 32 = l at *
          by_cases hl1 : l < 97
          · have HN : Hid (¬ goodH bs) := Lib.hid (fun g => by
              have h1 := HLow.out g; have h2 := HCI.out; have h3 := HL2.out
              rcases h1 with h1 | h1
              · omega
              · rw [or32 _ h1] at h3; omega)
            clear hl
            rcases (by omega : ci < 48 ∨ 57 < ci) with hx | hx
            all_goals
              clear hdig
              go_wp2_with (go_at_call 77; refine (LA _).mono ?_; rintro e w' ⟨rfl, rfl⟩)
              go_ret2
              exact PuOut.syntax HN.out HBel.out
          · by_cases hl2 : 102 < l
            · have HN : Hid (¬ goodH bs) := Lib.hid (fun g => by
                have h1 := HLow.out g; have h2 := HCI.out; have h3 := HL2.out
                rcases h1 with h1 | h1
                · omega
                · rw [or32 _ h1] at h3; omega)
              clear hl
              have hl3 : 97 ≤ l := by omega
              rcases (by omega : ci < 48 ∨ 57 < ci) with hx | hx
              all_goals
                rcases (by omega : l ≤ 122 ∨ 122 < l) with hy | hy
                all_goals
                  clear hdig hl1
                  go_wp2_with (go_at_call 77; refine (LA _).mono ?_; rintro e w' ⟨rfl, rfl⟩)
                  go_ret2
                  exact PuOut.syntax HN.out HBel.out
            · have hl3 : 97 ≤ l := by omega
              have hl4 : l ≤ 102 := by omega
              clear hl
              by_cases hcut : 1152921504606846976 ≤ a
              · have HN : Hid (¬ goodH bs) := Lib.hid (fun g => by have h1 := HH.out g; have h2 := HLt.out g; omega)
                rcases (by omega : ci < 48 ∨ 57 < ci) with hx | hx
                all_goals
                  clear hdig hl1 hl2
                  go_wp2_with (go_at_call 77; refine (LA _).mono ?_; rintro e w' ⟨rfl, rfl⟩)
                  go_ret2
                  exact PuOut.range HN.out HBel.out
              · have icut : a < 1152921504606846976 := by omega
                have HNx : Hid (goodH bs → a * 16 + (l - 97 + 10) = hexval (bs.take (k + 1))) := Lib.hid (fun g => by
                  rw [HSt.out]
                  have h1 := HH.out g
                  have h2 := HCI.out
                  have h3 := HL2.out
                  have h4 := HLow.out g
                  rcases h4 with h4 | h4
                  · omega
                  · rw [or32 _ h4] at h3
                    unfold hv
                    rw [if_neg (by omega)]
                    omega)
                rcases (by omega : ci < 48 ∨ 57 < ci) with hx | hx
                all_goals
                  clear hdig hl1 hl2 hcut
                  go_wp2_with (go_at_call 77; refine (LA _).mono ?_; rintro e w' ⟨rfl, rfl⟩)
                  refine ⟨⟨k + 1, a * 16 + (l - 97 + 10), rfl, (by first | rfl | (congr 1; omega)), (by first | rfl | (congr 1; omega)), by omega, by omega, by omega, HNx⟩, by simp [intOf]; omega⟩
    · have hkk : k = t.size := by omega
      subst hkk
      have HA : Hid (goodH bs → a = hexval bs) := Lib.hid (fun g => by rw [HH.out g, List.take_of_length_le (by omega)])
      go_wp2
      go_ret2
      exact ⟨_, _, rfl, a0, a1, .inl rfl, fun g => ⟨rfl, HA.out g⟩, HBel.out⟩
theorem pu16_any (t : ByteArray) (hmax : t.size ≤ 1000) (w : World) :
    Calls Tryd.prog 64 #[.string t, .int .i64 16, .int .i64 64] w fun e w' => PuOut t.data.toList w e w' := by
  by_cases h0 : t.size = 0
  · have ht : t = ⟨#[]⟩ := by
      apply ByteArray.ext
      exact Array.eq_empty_of_size_eq_zero h0
    subst ht
    exact pu16_empty w
  · exact pu16_some t h0 hmax w
end Fu
end Go.Proofs.YtdibokeinmhmbaaDoor
