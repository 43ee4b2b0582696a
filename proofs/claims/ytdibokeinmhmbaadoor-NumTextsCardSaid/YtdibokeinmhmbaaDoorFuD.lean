/- internal/strconv.formatBits in base 16. -/
import Derived.Test.YtdibokeinmhmbaaDoorFuC
namespace Go.Proofs.YtdibokeinmhmbaaDoor
open Go.RowKit Go.Shelf Go.Sort
set_option linter.unusedVariables false
namespace Fu
/-- The digits of u's low n nibbles, the greatest first. -/
def hexN (n u : Nat) : List UInt8 := (List.range n).map fun i => UInt8.ofNat (hd (u / 16 ^ (n - 1 - i) % 16))
theorem hexN_len (n u : Nat) : (hexN n u).length = n := by simp [hexN]
theorem hd_lt (x : Nat) (h : x < 16) : hd x < 256 := by unfold hd; split <;> omega
theorem Low.digits {w : World} {b u n : Nat} (h : Low w b u n) (hn : n ≤ 65) (j : Nat) (hj : j < (hexN n u).length) : w.cell? ((⟨b, 65 - n, none⟩ : Addr).add j) = some (.int .u8 ((hexN n u)[j].toNat : Int)) := by
  obtain ⟨c, h1, h2, h3⟩ := h
  have hj' : j < n := by rwa [hexN_len] at hj
  rw [Lib.add_plain]
  have e : 65 - n + j = 64 - (n - 1 - j) := by omega
  have h4 := h3 (n - 1 - j) (by omega)
  have h5 : (UInt8.ofNat (hd (u / 16 ^ (n - 1 - j) % 16))).toNat = hd (u / 16 ^ (n - 1 - j) % 16) := by
    rw [UInt8.toNat_ofNat']
    exact Nat.mod_eq_of_lt (hd_lt _ (Nat.mod_lt _ (by omega)))
  simp only [World.cell?, h1, hexN, List.getElem_map, List.getElem_range, h5, e]
  exact h4
theorem sx (x : Nat) (h : x < 16) (h' : x < (⟨#[48, 49, 50, 51, 52, 53, 54, 55, 56, 57, 97, 98, 99, 100, 101, 102, 103, 104, 105, 106, 107, 108, 109, 110, 111, 112, 113, 114, 115, 116, 117, 118, 119, 120, 121, 122]⟩ : ByteArray).size) : ((⟨#[48, 49, 50, 51, 52, 53, 54, 55, 56, 57, 97, 98, 99, 100, 101, 102, 103, 104, 105, 106, 107, 108, 109, 110, 111, 112, 113, 114, 115, 116, 117, 118, 119, 120, 121, 122]⟩ : ByteArray)[x]'h').toNat = hd x := by
  rcases (by omega : x = 0 ∨ x = 1 ∨ x = 2 ∨ x = 3 ∨ x = 4 ∨ x = 5 ∨ x = 6 ∨ x = 7 ∨ x = 8 ∨ x = 9 ∨ x = 10 ∨ x = 11 ∨ x = 12 ∨ x = 13 ∨ x = 14 ∨ x = 15) with rfl | rfl | rfl | rfl | rfl | rfl | rfl | rfl | rfl | rfl | rfl | rfl | rfl | rfl | rfl | rfl
  all_goals rfl
theorem pow_up (u j v : Nat) (hv : v = u / 16 ^ j) (h : 16 ≤ v) : 16 ^ (j + 1) ≤ u := by
  rw [Nat.pow_succ, Nat.mul_comm]
  rw [hv] at h
  exact (Nat.le_div_iff_mul_le (Nat.pow_pos (by omega))).1 h
theorem pow_dn (u j v : Nat) (hv : v = u / 16 ^ j) (h : v < 16) : u < 16 ^ (j + 1) := by
  rw [Nat.pow_succ, Nat.mul_comm]
  rw [hv] at h
  exact (Nat.div_lt_iff_lt_mul (Nat.pow_pos (by omega))).1 h
theorem nib (u j : Nat) : u / 16 ^ (j + 1) = u / 16 ^ j / 16 := by rw [Nat.pow_succ, Nat.div_div_eq_div_mul]

set_option maxRecDepth 100000 in
set_option maxHeartbeats 1000000 in
theorem fbits16 (u : Nat) (hu : u < 18446744073709551616) (w : World) (hc : w.cell? ⟨6, 15, none⟩ = some (.int .u8 4)) (hg : 6 < w.heap.size) :
    Calls Tryd.prog 70 #[.slice none 0 0, .int .u64 u, .int .i64 16, .bool false, .bool false] w fun e w' => ∃ n, 1 ≤ n ∧ n ≤ 16 ∧ u < 16 ^ n ∧ (1 < n → 16 ^ (n - 1) ≤ u) ∧ e = .returned (.tuple #[.slice none 0 0, .string ⟨(hexN n u).toArray⟩]) ∧ Below w.heap.size w w' := by
  obtain ⟨W0, hW0⟩ : ∃ W, W = w.alloc (.cells Tryd.zeroCells112 112) := ⟨_, rfl⟩
  obtain ⟨b, hb⟩ : ∃ b, b = w.heap.size := ⟨_, rfl⟩
  have hL0 : Hid (Low W0 b u 0) := Lib.hid (by rw [hW0, hb]; exact ⟨_, heap_alloc_new w _, by kernel_rfl, fun t ht => by omega⟩)
  have hB0 : Hid (Below w.heap.size w W0) := Lib.hid (by rw [hW0]; exact (Below.refl _ _).alloc (Nat.le_refl _) _)
  have HT := Lib.hid (tzu16 W0 ((hB0.out.cell (p := ⟨_, 15, none⟩) hg).trans hc))
  have HP := Lib.hid pow16
  replace hW0 := Lib.hid hW0
  have hbw : Hid (w.heap.size ≤ b) := Lib.hid (by omega)
  go_enter Tryd.func70, Tryd.ntmps70
  go_upto_region 4 with fail
  rw [← hW0.out, ← hb]
  replace hb := Lib.hid hb
  go_wp2_with fail
  refine (HP.out _).mono ?_
  rintro e w1 ⟨rfl, rfl⟩
  go_wp2_with fail
  refine HT.out.mono ?_
  rintro e w1 ⟨rfl, rfl⟩
  go_wp2_with fail
  go_loopw [1, 13] (fun x i wr => ∃ (j p v : Nat), p + j = 64 ∧ j ≤ 15 ∧ v = u / 16 ^ j ∧ x = .int .u64 v ∧ i = .int .i64 ((p + 1 : Nat) : Int) ∧ (0 < j → 16 ^ j ≤ u) ∧ Low wr b u j ∧ Below w.heap.size w wr) (fun x _ _ => (intOf x).toNat)
  case atStart => exact ⟨0, 64, u, rfl, by omega, by simp, rfl, rfl, fun h => by omega, hL0.out, hB0.out⟩
  case round =>
    obtain ⟨j, p, v, hpj, hj, hv, rfl, rfl, hle, hlow, hbel⟩ := hrel
    have hvu : v < 18446744073709551616 := Nat.lt_of_le_of_lt (by rw [hv]; exact Nat.div_le_self _ _) hu
    have hp0 : p ≤ 64 := by omega
    have hp1 : (p : Int) < 65 := by omega
    have hp2 : (0 : Int) ≤ p := by omega
    have kf := hlow.free p
    obtain ⟨cv, kc⟩ := hlow.cell p (by omega)
    have HV := Lib.hid hv
    have HLOW := Lib.hid hlow
    have HBEL := Lib.hid hbel
    have HLE := Lib.hid hle
    clear hlow hbel hle hv
    by_cases hge : 16 ≤ v
    · have hge' : (16 : Int) ≤ v := by omega
      have hm := mask15 v hvu
      have hi := hix (v % 16) (Nat.mod_lt _ (by omega))
      go_wp2_with fail
      have hup := pow_up u j v HV.out hge
      have hj14 : j ≤ 14 := by
        rcases Nat.lt_or_ge j 15 with h | h
        · omega
        · have e : j = 15 := by omega
          rw [e] at hup
          omega
      have hst := HLOW.out.step (by omega)
      rw [show 64 - j = p by omega, ← HV.out] at hst
      refine ⟨⟨j + 1, p - 1, v / 16, by omega, by omega, by rw [nib, ← HV.out], congrArg (Value.int .u64) (by omega), congrArg (Value.int .i64) (by omega), fun _ => hup, ?_, HBEL.out.setCell hbw.out _⟩, by simp [intOf]; omega⟩
      rw [sx (v % 16) (Nat.mod_lt _ (by omega))]
      exact hst
    · have hlt' : (v : Int) < 16 := by omega
      have hi := hix v (by omega)
      have hst := HLOW.out.step (by omega)
      rw [show 64 - j = p by omega, ← HV.out, Nat.mod_eq_of_lt (by omega : v < 16)] at hst
      have hal : Tryd.prog.arrayLen 112 = 65 := by kernel_rfl
      have hsl : ∀ W, (Instr.sliceAt 112 (.pointer (some ⟨b, 0, none⟩)) (some (.int .i64 (p : Int))) none none).run Tryd.prog W = .ok (.slice (some ⟨b, p, none⟩) (65 - p) (65 - p)) W := fun W => by
        rw [run_sliceAt_array_l W 112 ⟨b, 0, none⟩ (by kernel_rfl) .i64 (p : Int) (by omega) (by rw [hal]; omega)]
        go_simp
        omega
      have hcv : (convert 82 9 (.slice (some ⟨b, p, none⟩) (65 - p) (65 - p))).run Tryd.prog (wr.setCell ⟨b, p, none⟩ (.int .u8 (hd v : Nat))) = .ok (.string ⟨(hexN (j + 1) u).toArray⟩) (wr.setCell ⟨b, p, none⟩ (.int .u8 (hd v : Nat))) := by
        have h := run_convert_bytes_back (P := Tryd.prog) (wr.setCell ⟨b, p, none⟩ (.int .u8 (hd v : Nat))) 82 9 5 ⟨b, p, none⟩ (65 - p) (hexN (j + 1) u) Tryd.underlying82 Tryd.underlying5 Tryd.underlying9 (fun i hi => by
          have := hst.digits (by omega) i hi
          rwa [show 65 - (j + 1) = p by omega] at this)
        rw [hexN_len, show j + 1 = 65 - p by omega] at h
        rw [show j + 1 = 65 - p by omega]
        exact h
      clear hal hst
      go_wp2_with fail
      have hdn := pow_dn u j v HV.out (by omega)
      exact bodyPost_ret (v := .tuple #[.slice none 0 0, .string ⟨(hexN (j + 1) u).toArray⟩]) (by simp [results, Tryd.results70, go_sem]) rfl ⟨j + 1, by omega, by omega, hdn, fun h => by rw [Nat.add_sub_cancel]; exact HLE.out (by omega), rfl, HBEL.out.setCell hbw.out _⟩
end Fu
end Go.Proofs.YtdibokeinmhmbaaDoor
