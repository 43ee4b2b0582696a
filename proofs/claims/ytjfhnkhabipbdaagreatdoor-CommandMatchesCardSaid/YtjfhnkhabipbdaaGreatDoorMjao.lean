/- internal/strconv.formatBits in base 16: the first loop. -/
/- internal/strconv.formatBits in base 16. -/
/- strconv.FormatUint in base 16, strconv.Itoa. -/
/- The reference's decimal digits of any number. -/
import Derived.Test.YtjfhnkhabipbdaaGreatDoorMjan
import Derived.Deep.CutRange
import Derived.StillTailTactics
import Derived.Lib.ItoaLen
namespace Go.Proofs.YtjfhnkhabipbdaaGreatDoor
open Go.RowKit Go.Shelf Go.Sort
set_option linter.unusedVariables false
namespace Fu
/-- A hexadecimal digit's byte. -/
def hd (x : Nat) : Nat := if x < 10 then 48 + x else 87 + x
theorem hix (x : Nat) (h : x < 16) (W : World) : (Instr.index 9 (.string ⟨#[48, 49, 50, 51, 52, 53, 54, 55, 56, 57, 97, 98, 99, 100, 101, 102, 103, 104, 105, 106, 107, 108, 109, 110, 111, 112, 113, 114, 115, 116, 117, 118, 119, 120, 121, 122]⟩) (.int .u64 (x : Int))).run Tryz.prog W = .ok (.int .u8 (hd x : Nat)) W := by
  rcases (by omega : x = 0 ∨ x = 1 ∨ x = 2 ∨ x = 3 ∨ x = 4 ∨ x = 5 ∨ x = 6 ∨ x = 7 ∨ x = 8 ∨ x = 9 ∨ x = 10 ∨ x = 11 ∨ x = 12 ∨ x = 13 ∨ x = 14 ∨ x = 15) with rfl | rfl | rfl | rfl | rfl | rfl | rfl | rfl | rfl | rfl | rfl | rfl | rfl | rfl | rfl | rfl
  all_goals kernel_rfl
theorem mask15 (v : Nat) (h : v < 18446744073709551616) : bits BinOp.and IntKind.u64 (v : Int) 15 = ((v % 16 : Nat) : Int) := by
  have h := bits_and_u64_nat v 15 (by omega) (by omega)
  have e : v &&& 15 = v % 16 := Nat.and_two_pow_sub_one_eq_mod v 4
  rw [e] at h
  exact h
/-- The array, its last j cells the digits of u's low j nibbles. -/
def Low (w : World) (b : Nat) (u j : Nat) : Prop := ∃ c : Array Value, w.heap[b]? = some (.cells c 104 (0, 0)) ∧ c.size = 65 ∧ ∀ t, t < j → c[64 - t]? = some (.int .u8 (hd (u / 16 ^ t % 16) : Nat))
theorem Low.free {w : World} {b u j : Nat} (h : Low w b u j) (o : Nat) : w.frozen? ⟨b, o, none⟩ = false := by
  obtain ⟨c, h1, -⟩ := h; simp [World.frozen?, h1]
theorem Low.cell {w : World} {b u j : Nat} (h : Low w b u j) (o : Nat) (ho : o < 65) : ∃ v, w.cell? ⟨b, o, none⟩ = some v := by
  obtain ⟨c, h1, h2, -⟩ := h
  exact ⟨c[o]'(by omega), by simp [World.cell?, h1, h2, ho]⟩
theorem Low.step {w : World} {b u j : Nat} (h : Low w b u j) (hj : j < 65) : Low (w.setCell ⟨b, 64 - j, none⟩ (.int .u8 (hd (u / 16 ^ j % 16) : Nat))) b u (j + 1) := by
  obtain ⟨c, h1, h2, h3⟩ := h
  refine ⟨c.setIfInBounds (64 - j) (.int .u8 (hd (u / 16 ^ j % 16) : Nat)), by simp [World.setCell, Array.getElem?_modify, h1], by simpa using h2, fun t ht => ?_⟩
  rw [Array.getElem?_setIfInBounds]
  by_cases e : 64 - j = 64 - t
  · have : t = j := by omega
    subst this
    rw [if_pos e, if_pos (by omega)]
  · rw [if_neg e]
    exact h3 t (by omega)
end Fu
end Go.Proofs.YtjfhnkhabipbdaaGreatDoor
namespace Go.Proofs.YtjfhnkhabipbdaaGreatDoor
open Go.RowKit Go.Shelf Go.Sort
set_option linter.unusedVariables false
namespace Fu
/-- The digits of u's low n nibbles, the greatest first. -/
def hexN (n u : Nat) : List UInt8 := (List.range n).map fun i => UInt8.ofNat (hd (u / 16 ^ (n - 1 - i) % 16))
theorem hexN_len (n u : Nat) : (hexN n u).length = n := by simp [hexN]
theorem hd_lt (x : Nat) (h : x < 16) : hd x < 256 := by unfold hd; split <;> omega
theorem Low.digits {w : World} {b u n : Nat} (h : Low w b u n) (hn : n ≤ 65) (j : Nat) (hj : j < (hexN n u).length) : w.cell? ((⟨b, 65 - n, none⟩ : Addr).add j) = some (.int .u8 ((hexN n u)[j].toNat : Int)) := by
  obtain ⟨c, h1, h2, h3⟩ := h
  have hj' : j < n := by rwa [hexN_len] at hj
  rw [Lib.add_plain]
  have e : 65 - n + j = 64 - (n - 1 - j) := by omega
  have h4 := h3 (n - 1 - j) (by omega)
  have h5 : (UInt8.ofNat (hd (u / 16 ^ (n - 1 - j) % 16))).toNat = hd (u / 16 ^ (n - 1 - j) % 16) := by
    rw [UInt8.toNat_ofNat']
    exact Nat.mod_eq_of_lt (hd_lt _ (Nat.mod_lt _ (by omega)))
  simp only [World.cell?, h1, hexN, List.getElem_map, List.getElem_range, h5, e]
  exact h4
theorem sx (x : Nat) (h : x < 16) (h' : x < (⟨#[48, 49, 50, 51, 52, 53, 54, 55, 56, 57, 97, 98, 99, 100, 101, 102, 103, 104, 105, 106, 107, 108, 109, 110, 111, 112, 113, 114, 115, 116, 117, 118, 119, 120, 121, 122]⟩ : ByteArray).size) : ((⟨#[48, 49, 50, 51, 52, 53, 54, 55, 56, 57, 97, 98, 99, 100, 101, 102, 103, 104, 105, 106, 107, 108, 109, 110, 111, 112, 113, 114, 115, 116, 117, 118, 119, 120, 121, 122]⟩ : ByteArray)[x]'h').toNat = hd x := by
  rcases (by omega : x = 0 ∨ x = 1 ∨ x = 2 ∨ x = 3 ∨ x = 4 ∨ x = 5 ∨ x = 6 ∨ x = 7 ∨ x = 8 ∨ x = 9 ∨ x = 10 ∨ x = 11 ∨ x = 12 ∨ x = 13 ∨ x = 14 ∨ x = 15) with rfl | rfl | rfl | rfl | rfl | rfl | rfl | rfl | rfl | rfl | rfl | rfl | rfl | rfl | rfl | rfl
  all_goals rfl
theorem pow_up (u j v : Nat) (hv : v = u / 16 ^ j) (h : 16 ≤ v) : 16 ^ (j + 1) ≤ u := by
  rw [Nat.pow_succ, Nat.mul_comm]
  rw [hv] at h
  exact (Nat.le_div_iff_mul_le (Nat.pow_pos (by omega))).1 h
theorem pow_dn (u j v : Nat) (hv : v = u / 16 ^ j) (h : v < 16) : u < 16 ^ (j + 1) := by
  rw [Nat.pow_succ, Nat.mul_comm]
  rw [hv] at h
  exact (Nat.div_lt_iff_lt_mul (Nat.pow_pos (by omega))).1 h
theorem nib (u j : Nat) : u / 16 ^ (j + 1) = u / 16 ^ j / 16 := by rw [Nat.pow_succ, Nat.div_div_eq_div_mul]

set_option maxRecDepth 100000 in
set_option maxHeartbeats 1000000 in
theorem fbits16 (u : Nat) (hu : u < 18446744073709551616) (w : World) (hc : w.cell? ⟨3, 15, none⟩ = some (.int .u8 4)) (hg : 3 < w.heap.size) :
    Calls Tryz.prog 56 #[.slice none 0 0, .int .u64 u, .int .i64 16, .bool false, .bool false] w fun e w' => ∃ n, 1 ≤ n ∧ n ≤ 16 ∧ u < 16 ^ n ∧ (1 < n → 16 ^ (n - 1) ≤ u) ∧ e = .returned (.tuple #[.slice none 0 0, .string ⟨(hexN n u).toArray⟩]) ∧ Below w.heap.size w w' := by
  obtain ⟨W0, hW0⟩ : ∃ W, W = w.alloc (.cells Tryz.zeroCells104 104) := ⟨_, rfl⟩
  obtain ⟨b, hb⟩ : ∃ b, b = w.heap.size := ⟨_, rfl⟩
  have hL0 : Hid (Low W0 b u 0) := Lib.hid (by rw [hW0, hb]; exact ⟨_, heap_alloc_new w _, by kernel_rfl, fun t ht => by omega⟩)
  have hB0 : Hid (Below w.heap.size w W0) := Lib.hid (by rw [hW0]; exact (Below.refl _ _).alloc (Nat.le_refl _) _)
  have HT := Lib.hid (tzu16 W0 ((hB0.out.cell (p := ⟨_, 15, none⟩) hg).trans hc))
  have HP := Lib.hid pow16
  replace hW0 := Lib.hid hW0
  have hbw : Hid (w.heap.size ≤ b) := Lib.hid (by omega)
  go_enter Tryz.func56, Tryz.ntmps56
  go_upto_region 4 with fail
  rw [← hW0.out, ← hb]
  replace hb := Lib.hid hb
  go_wp2_with fail
  refine (HP.out _).mono ?_
  rintro e w1 ⟨rfl, rfl⟩
  go_wp2_with fail
  refine HT.out.mono ?_
  rintro e w1 ⟨rfl, rfl⟩
  go_wp2_with fail
  go_loopw [1, 13] (fun x i wr => ∃ (j p v : Nat), p + j = 64 ∧ j ≤ 15 ∧ v = u / 16 ^ j ∧ x = .int .u64 v ∧ i = .int .i64 ((p + 1 : Nat) : Int) ∧ (0 < j → 16 ^ j ≤ u) ∧ Low wr b u j ∧ Below w.heap.size w wr) (fun x _ _ => (intOf x).toNat)
  case atStart => exact ⟨0, 64, u, rfl, by omega, by simp, rfl, rfl, fun h => by omega, hL0.out, hB0.out⟩
  case round =>
    obtain ⟨j, p, v, hpj, hj, hv, rfl, rfl, hle, hlow, hbel⟩ := hrel
    have hvu : v < 18446744073709551616 := Nat.lt_of_le_of_lt (by rw [hv]; exact Nat.div_le_self _ _) hu
    have hp0 : p ≤ 64 := by omega
    have hp1 : (p : Int) < 65 := by omega
    have hp2 : (0 : Int) ≤ p := by omega
    have kf := hlow.free p
    obtain ⟨cv, kc⟩ := hlow.cell p (by omega)
    have HV := Lib.hid hv
    have HLOW := Lib.hid hlow
    have HBEL := Lib.hid hbel
    have HLE := Lib.hid hle
    clear hlow hbel hle hv
    by_cases hge : 16 ≤ v
    · have hge' : (16 : Int) ≤ v := by omega
      have hm := mask15 v hvu
      have hi := hix (v % 16) (Nat.mod_lt _ (by omega))
      go_wp2_with fail
      have hup := pow_up u j v HV.out hge
      have hj14 : j ≤ 14 := by
        rcases Nat.lt_or_ge j 15 with h | h
        · omega
        · have e : j = 15 := by omega
          rw [e] at hup
          omega
      have hst := HLOW.out.step (by omega)
      rw [show 64 - j = p by omega, ← HV.out] at hst
      refine ⟨⟨j + 1, p - 1, v / 16, by omega, by omega, by rw [nib, ← HV.out], congrArg (Value.int .u64) (by omega), congrArg (Value.int .i64) (by omega), fun _ => hup, ?_, HBEL.out.setCell hbw.out _⟩, by simp [intOf]; omega⟩
      rw [sx (v % 16) (Nat.mod_lt _ (by omega))]
      exact hst
    · have hlt' : (v : Int) < 16 := by omega
      have hi := hix v (by omega)
      have hst := HLOW.out.step (by omega)
      rw [show 64 - j = p by omega, ← HV.out, Nat.mod_eq_of_lt (by omega : v < 16)] at hst
      have hal : Tryz.prog.arrayLen 104 = 65 := by kernel_rfl
      have hsl : ∀ W, (Instr.sliceAt 104 (.pointer (some ⟨b, 0, none⟩)) (some (.int .i64 (p : Int))) none none).run Tryz.prog W = .ok (.slice (some ⟨b, p, none⟩) (65 - p) (65 - p)) W := fun W => by
        rw [run_sliceAt_array_l W 104 ⟨b, 0, none⟩ (by kernel_rfl) .i64 (p : Int) (by omega) (by rw [hal]; omega)]
        go_simp
        omega
      have hcv : (convert 79 9 (.slice (some ⟨b, p, none⟩) (65 - p) (65 - p))).run Tryz.prog (wr.setCell ⟨b, p, none⟩ (.int .u8 (hd v : Nat))) = .ok (.string ⟨(hexN (j + 1) u).toArray⟩) (wr.setCell ⟨b, p, none⟩ (.int .u8 (hd v : Nat))) := by
        have h := run_convert_bytes_back (P := Tryz.prog) (wr.setCell ⟨b, p, none⟩ (.int .u8 (hd v : Nat))) 79 9 5 ⟨b, p, none⟩ (65 - p) (hexN (j + 1) u) Tryz.underlying79 Tryz.underlying5 Tryz.underlying9 (fun i hi => by
          have := hst.digits (by omega) i hi
          rwa [show 65 - (j + 1) = p by omega] at this)
        rw [hexN_len, show j + 1 = 65 - p by omega] at h
        rw [show j + 1 = 65 - p by omega]
        exact h
      clear hal hst
      go_wp2_with fail
      have hdn := pow_dn u j v HV.out (by omega)
      exact bodyPost_ret (v := .tuple #[.slice none 0 0, .string ⟨(hexN (j + 1) u).toArray⟩]) (by simp [results, Tryz.results56, go_sem]) rfl ⟨j + 1, by omega, by omega, hdn, fun h => by rw [Nat.add_sub_cancel]; exact HLE.out (by omega), rfl, HBEL.out.setCell hbw.out _⟩
end Fu
end Go.Proofs.YtjfhnkhabipbdaaGreatDoor
namespace Go.Proofs.YtjfhnkhabipbdaaGreatDoor
open Go.RowKit Go.Shelf Go.Sort
set_option linter.unusedVariables false

def Tryz.laysIt_ren : Go.Shelf.Ren := ⟨fun | 171 => 16 | 243 => 27 | 246 => 38 | 283 => 53 | 284 => 54 | 285 => 55 | 286 => 56 | 129 => 76 | 317 => 75 | 318 => 77 | 319 => 78 | 320 => 79 | 337 => 89 | 338 => 90 | n => n, fun | 3 => 3 | 9 => 9 | 2 => 2 | 4 => 4 | 171 => 76 | 0 => 0 | 53 => 25 | 37 => 79 | 5 => 5 | 173 => 80 | 212 => 102 | 51 => 103 | 20 => 20 | 213 => 104 | 46 => 105 | 232 => 124 | 233 => 125 | n => n, fun | 17 => 0 | 18 => 2 | 19 => 3 | n => n⟩
theorem Tryz.laysIt : Go.Proofs.LaysM.n171 Tryz.prog Tryz.laysIt_ren := {
  mixed := by kernel_rfl
  f129 := Tryz.func76.trans (congrArg some (by kernel_rfl))
  f171 := Tryz.func16.trans (congrArg some (by kernel_rfl))
  f243 := Tryz.func27.trans (congrArg some (by kernel_rfl))
  f246 := Tryz.func38.trans (congrArg some (by kernel_rfl))
  f283 := Tryz.func53.trans (congrArg some (by kernel_rfl))
  f284 := Tryz.func54.trans (congrArg some (by kernel_rfl))
  f285 := Tryz.func55.trans (congrArg some (by kernel_rfl))
  f286 := Tryz.func56.trans (congrArg some (by kernel_rfl))
  f317 := Tryz.func75.trans (congrArg some (by kernel_rfl))
  f318 := Tryz.func77.trans (congrArg some (by kernel_rfl))
  f319 := Tryz.func78.trans (congrArg some (by kernel_rfl))
  f320 := Tryz.func79.trans (congrArg some (by kernel_rfl))
  f337 := Tryz.func89.trans (congrArg some (by kernel_rfl))
  f338 := Tryz.func90.trans (congrArg some (by kernel_rfl))
  t0 := Tryz.underlying0
  a0 := Tryz.isAgg0
  z0 := Tryz.sizeOf0
  v0 := Tryz.zeroValue0
  t2 := Tryz.underlying2
  a2 := Tryz.isAgg2
  z2 := Tryz.sizeOf2
  v2 := Tryz.zeroValue2
  t3 := Tryz.underlying3
  a3 := Tryz.isAgg3
  z3 := Tryz.sizeOf3
  v3 := Tryz.zeroValue3
  t4 := Tryz.underlying4
  a4 := Tryz.isAgg4
  z4 := Tryz.sizeOf4
  v4 := Tryz.zeroValue4
  t5 := Tryz.underlying5
  a5 := Tryz.isAgg5
  z5 := Tryz.sizeOf5
  v5 := Tryz.zeroValue5
  t9 := Tryz.underlying9
  a9 := Tryz.isAgg9
  z9 := Tryz.sizeOf9
  v9 := Tryz.zeroValue9
  t20 := Tryz.underlying20
  a20 := Tryz.isAgg20
  z20 := Tryz.sizeOf20
  v20 := Tryz.zeroValue20
  t37 := Tryz.underlying79
  a37 := Tryz.isAgg79
  z37 := Tryz.sizeOf79
  v37 := Tryz.zeroValue79
  t46 := Tryz.underlying105
  a46 := Tryz.isAgg105
  z46 := Tryz.sizeOf105
  v46 := Tryz.zeroValue105
  t51 := Tryz.underlying103
  a51 := Tryz.isAgg103
  z51 := Tryz.sizeOf103
  v51 := Tryz.zeroValue103
  t53 := Tryz.underlying25
  a53 := Tryz.isAgg25
  z53 := Tryz.sizeOf25
  v53 := Tryz.zeroValue25
  t171 := Tryz.underlying76
  a171 := Tryz.isAgg76
  z171 := Tryz.sizeOf76
  v171 := Tryz.zeroValue76
  t173 := Tryz.underlying80
  a173 := Tryz.isAgg80
  z173 := Tryz.sizeOf80
  v173 := Tryz.zeroValue80
  t212 := Tryz.underlying102
  a212 := Tryz.isAgg102
  z212 := Tryz.sizeOf102
  v212 := Tryz.zeroValue102
  t213 := Tryz.underlying104
  a213 := Tryz.isAgg104
  z213 := Tryz.sizeOf104
  t232 := Tryz.underlying124
  a232 := Tryz.isAgg124
  z232 := Tryz.sizeOf124
  v232 := Tryz.zeroValue124
  t233 := Tryz.underlying125
  a233 := Tryz.isAgg125
  z233 := Tryz.sizeOf125
  v233 := Tryz.zeroValue125
  g17 := by kernel_rfl
  g18 := by kernel_rfl
  g19 := by kernel_rfl
  i0 := by kernel_rfl
  i2 := by kernel_rfl
  i3 := by kernel_rfl
  i4 := by kernel_rfl
  i5 := by kernel_rfl
  i9 := by kernel_rfl
  i20 := by kernel_rfl
  i37 := by kernel_rfl
  i46 := by kernel_rfl
  i51 := by kernel_rfl
  i53 := by kernel_rfl
  i171 := by kernel_rfl
  i173 := by kernel_rfl
  i212 := by kernel_rfl
  i232 := by kernel_rfl
  i233 := by kernel_rfl
  m17 := by kernel_rfl
  m18 := by kernel_rfl
  m19 := by kernel_rfl }

namespace Fu
/-- strconv.FormatUint at base 16. -/
theorem fmt16_any (u : Nat) (hu : u < 18446744073709551616) (w : World) (hc : w.cell? ⟨3, 15, none⟩ = some (.int .u8 4)) (hg : 3 < w.heap.size) :
    Calls Tryz.prog 41 #[.int .u64 u, .int .i64 16] w fun e w' => ∃ n, 1 ≤ n ∧ n ≤ 16 ∧ u < 16 ^ n ∧ (1 < n → 16 ^ (n - 1) ≤ u) ∧ e = .returned (.string ⟨(hexN n u).toArray⟩) ∧ Below w.heap.size w w' := by
  have HB := Lib.hid (fbits16 u hu w hc hg)
  have HI : Hid (Calls Tryz.prog 62 #[.int .u64 u, .int .i64 16] w fun e w' => ∃ n, 1 ≤ n ∧ n ≤ 16 ∧ u < 16 ^ n ∧ (1 < n → 16 ^ (n - 1) ≤ u) ∧ e = .returned (.string ⟨(hexN n u).toArray⟩) ∧ Below w.heap.size w w') := Lib.hid (by
    go_enter Tryz.func62, Tryz.ntmps62
    go_wp2_with fail
    refine HB.out.mono ?_
    rintro e w1 ⟨n, h1, h2, h3, h4, rfl, hb⟩
    have H4 := Lib.hid h4
    have H3 := Lib.hid h3
    clear h3 h4
    go_wp2_with fail
    go_ret
    exact ⟨n, h1, h2, H3.out, H4.out, rfl, hb⟩)
  clear HB
  go_enter Tryz.func41, Tryz.ntmps41
  go_wp2_with fail
  refine HI.out.mono ?_
  rintro e w1 ⟨n, h1, h2, h3, h4, rfl, hb⟩
  have H4 := Lib.hid h4
  have H3 := Lib.hid h3
  clear h3 h4
  go_wp2_with fail
  go_ret
  exact ⟨n, h1, h2, H3.out, H4.out, rfl, hb⟩
/-- strconv.Itoa. -/
theorem itoa_any (n : Int) (h0 : -9223372036854775808 ≤ n) (h1 : n ≤ 9223372036854775807) (w : World) (htab : Lib.TabIs Tryz.prog w "internal/strconv.uint64pow10" .u64 Lib.pow10Tab) :
    Calls Tryz.prog 16 #[.int .i64 n] w fun e w' => e = .returned (.string ⟨(Lib.itoa n).toArray⟩) ∧ Below w.heap.size w w' :=
  (Any.strconv_Itoa Tryz.laysIt n h0 h1 w htab).mono fun e w' h => ⟨h.1, by obtain ⟨k, os, rfl⟩ := h.2; exact grow_below _ _ _⟩
end Fu
end Go.Proofs.YtjfhnkhabipbdaaGreatDoor
namespace Go.Proofs.YtjfhnkhabipbdaaGreatDoor
open Go.RowKit
set_option linter.unusedVariables false
namespace Fu
/-- A digit's byte. -/
def dgt (x : Nat) : UInt8 := UInt8.ofNat (48 + x)
theorem dec_small (u : Nat) (h : u < 10) : Lib.decDigits u = [dgt u] := by rw [Lib.decDigits, dif_pos h]; rfl
theorem dec_big (u : Nat) (h : ¬ u < 10) : Lib.decDigits u = Lib.decDigits (u / 10) ++ [dgt (u % 10)] := by rw [Lib.decDigits, dif_neg h]; rfl
/-- One digit cut out of the ten. -/
theorem cut10 (y : Int) (h0 : 0 ≤ y) (h1 : y < 10) (W : World) : (Instr.slice 9 (.string ⟨#[48, 49, 50, 51, 52, 53, 54, 55, 56, 57]⟩) (some (.int .u64 y)) (some (.int .u64 (y + 1))) none).run Tryz.prog W = .ok (.string ⟨#[dgt y.toNat]⟩) W := by
  rcases (by omega : y = 0 ∨ y = 1 ∨ y = 2 ∨ y = 3 ∨ y = 4 ∨ y = 5 ∨ y = 6 ∨ y = 7 ∨ y = 8 ∨ y = 9) with rfl | rfl | rfl | rfl | rfl | rfl | rfl | rfl | rfl | rfl
  all_goals kernel_rfl
set_option maxRecDepth 100000 in
theorem rdigits_any (u : Nat) (hu : u < 18446744073709551616) (w : World) :
    Calls Tryz.prog 30 #[.int .u64 u] w fun e w' => e = .returned (.string ⟨(Lib.decDigits u).toArray⟩) ∧ w' = w := by
  have hc := cut10 ((u : Int) % 10) (by omega) (by omega)
  go_enter Tryz.func30, Tryz.ntmps30
  go_wp2_with fail
  go_loop [0, 3] (fun n s => ∃ (v : Nat) (r : List UInt8), v ≤ u ∧ n = .int .u64 v ∧ s = .string ⟨(dgt (v % 10) :: r).toArray⟩ ∧ Lib.decDigits u = Lib.decDigits v ++ r) (fun n _ => (intOf n).toNat)
  case atStart =>
    refine ⟨u, [], Nat.le_refl _, rfl, ?_, by simp⟩
    first | rfl | (have e : ((u : Int) % 10).toNat = u % 10 := by omega
                   rw [e])
  case round =>
    obtain ⟨v, r, hv, rfl, rfl, hd⟩ := hrel
    have hrl : r.length ≤ 20 := by
      have h1 := congrArg List.length hd
      rw [List.length_append, Lib.decDigits_length] at h1
      have h2 := Lib.nDigits_le20 u hu
      omega
    have hrl2 : ¬ (9223372036854775807 < 1 + (r.length + 1)) := by omega
    have HD := Lib.hid hd
    clear hd hc
    by_cases h : 10 ≤ v
    · have h' : (10 : Int) ≤ v := by omega
      have hc := cut10 ((v : Int) / 10 % 10) (by omega) (by omega)
      go_wp2_with fail
      refine ⟨⟨v / 10, dgt (v % 10) :: r, by omega, congrArg (Value.int .u64) (by omega), ?_, ?_⟩, by simp [intOf]; omega⟩
      · apply congrArg Value.string
        rfl
      · rw [HD.out, dec_big v (by omega), List.append_assoc]
        rfl
    · have h' : (v : Int) < 10 := by omega
      go_wp2_with fail
      go_ret
      have e := HD.out
      rw [dec_small v (by omega)] at e
      refine ⟨?_, rfl⟩
      rw [e, Nat.mod_eq_of_lt (by omega : v < 10)]
      rfl
end Fu
end Go.Proofs.YtjfhnkhabipbdaaGreatDoor
