/- strconv.FormatUint in base 16, strconv.Itoa. -/
/- The reference's decimal digits of any number. -/
/- The reference's text of a number. -/
/- The reference's text of a number: the walk. -/
/- The reference's text of any number. -/
/- Texts of numbers are equal exactly if the numbers are: plain lemmas. -/
import Derived.Test.YtpneejlilgepfaaGreatDoorMbap
import Derived.Lib.ItoaLen
import Derived.Test.YtpneejlilgepfaaGreatDoorMbad
import Derived.Test.YtpneejlilgepfaaGreatDoorMbae
import Derived.Lib.Join
namespace Go.Proofs.YtpneejlilgepfaaGreatDoor
open Go.RowKit Go.Shelf Go.Sort
set_option linter.unusedVariables false

def Tryz.laysIt_ren : Go.Shelf.Ren := ⟨fun | 171 => 76 | 243 => 116 | 246 => 137 | 283 => 121 | 284 => 122 | 285 => 123 | 286 => 124 | 129 => 142 | 317 => 141 | 318 => 143 | 319 => 144 | 320 => 145 | 337 => 155 | 338 => 156 | n => n, fun | 3 => 3 | 9 => 9 | 2 => 2 | 4 => 4 | 171 => 151 | 0 => 0 | 53 => 22 | 37 => 31 | 5 => 5 | 173 => 154 | 212 => 171 | 51 => 172 | 20 => 20 | 213 => 173 | 46 => 143 | 232 => 184 | 233 => 185 | n => n, fun | 17 => 0 | 18 => 3 | 19 => 4 | n => n⟩
theorem Tryz.laysIt : Go.Proofs.LaysM.n171 Tryz.prog Tryz.laysIt_ren := {
  mixed := by kernel_rfl
  f129 := Tryz.func142.trans (congrArg some (by kernel_rfl))
  f171 := Tryz.func76.trans (congrArg some (by kernel_rfl))
  f243 := Tryz.func116.trans (congrArg some (by kernel_rfl))
  f246 := Tryz.func137.trans (congrArg some (by kernel_rfl))
  f283 := Tryz.func121.trans (congrArg some (by kernel_rfl))
  f284 := Tryz.func122.trans (congrArg some (by kernel_rfl))
  f285 := Tryz.func123.trans (congrArg some (by kernel_rfl))
  f286 := Tryz.func124.trans (congrArg some (by kernel_rfl))
  f317 := Tryz.func141.trans (congrArg some (by kernel_rfl))
  f318 := Tryz.func143.trans (congrArg some (by kernel_rfl))
  f319 := Tryz.func144.trans (congrArg some (by kernel_rfl))
  f320 := Tryz.func145.trans (congrArg some (by kernel_rfl))
  f337 := Tryz.func155.trans (congrArg some (by kernel_rfl))
  f338 := Tryz.func156.trans (congrArg some (by kernel_rfl))
  t0 := Tryz.underlying0
  a0 := Tryz.isAgg0
  z0 := Tryz.sizeOf0
  v0 := Tryz.zeroValue0
  t2 := Tryz.underlying2
  a2 := Tryz.isAgg2
  z2 := Tryz.sizeOf2
  v2 := Tryz.zeroValue2
  t3 := Tryz.underlying3
  a3 := Tryz.isAgg3
  z3 := Tryz.sizeOf3
  v3 := Tryz.zeroValue3
  t4 := Tryz.underlying4
  a4 := Tryz.isAgg4
  z4 := Tryz.sizeOf4
  v4 := Tryz.zeroValue4
  t5 := Tryz.underlying5
  a5 := Tryz.isAgg5
  z5 := Tryz.sizeOf5
  v5 := Tryz.zeroValue5
  t9 := Tryz.underlying9
  a9 := Tryz.isAgg9
  z9 := Tryz.sizeOf9
  v9 := Tryz.zeroValue9
  t20 := Tryz.underlying20
  a20 := Tryz.isAgg20
  z20 := Tryz.sizeOf20
  v20 := Tryz.zeroValue20
  t37 := Tryz.underlying31
  a37 := Tryz.isAgg31
  z37 := Tryz.sizeOf31
  v37 := Tryz.zeroValue31
  t46 := Tryz.underlying143
  a46 := Tryz.isAgg143
  z46 := Tryz.sizeOf143
  v46 := Tryz.zeroValue143
  t51 := Tryz.underlying172
  a51 := Tryz.isAgg172
  z51 := Tryz.sizeOf172
  v51 := Tryz.zeroValue172
  t53 := Tryz.underlying22
  a53 := Tryz.isAgg22
  z53 := Tryz.sizeOf22
  v53 := Tryz.zeroValue22
  t171 := Tryz.underlying151
  a171 := Tryz.isAgg151
  z171 := Tryz.sizeOf151
  v171 := Tryz.zeroValue151
  t173 := Tryz.underlying154
  a173 := Tryz.isAgg154
  z173 := Tryz.sizeOf154
  v173 := Tryz.zeroValue154
  t212 := Tryz.underlying171
  a212 := Tryz.isAgg171
  z212 := Tryz.sizeOf171
  v212 := Tryz.zeroValue171
  t213 := Tryz.underlying173
  a213 := Tryz.isAgg173
  z213 := Tryz.sizeOf173
  t232 := Tryz.underlying184
  a232 := Tryz.isAgg184
  z232 := Tryz.sizeOf184
  v232 := Tryz.zeroValue184
  t233 := Tryz.underlying185
  a233 := Tryz.isAgg185
  z233 := Tryz.sizeOf185
  v233 := Tryz.zeroValue185
  g17 := by kernel_rfl
  g18 := by kernel_rfl
  g19 := by kernel_rfl
  i0 := by kernel_rfl
  i2 := by kernel_rfl
  i3 := by kernel_rfl
  i4 := by kernel_rfl
  i5 := by kernel_rfl
  i9 := by kernel_rfl
  i20 := by kernel_rfl
  i37 := by kernel_rfl
  i46 := by kernel_rfl
  i51 := by kernel_rfl
  i53 := by kernel_rfl
  i171 := by kernel_rfl
  i173 := by kernel_rfl
  i212 := by kernel_rfl
  i232 := by kernel_rfl
  i233 := by kernel_rfl
  m17 := by kernel_rfl
  m18 := by kernel_rfl
  m19 := by kernel_rfl }

namespace Fu
/-- strconv.FormatUint at base 16. -/
theorem fmt16_any (u : Nat) (hu : u < 18446744073709551616) (w : World) (hc : w.cell? ⟨4, 15, none⟩ = some (.int .u8 4)) (hg : 4 < w.heap.size) :
    Calls Tryz.prog 48 #[.int .u64 u, .int .i64 16] w fun e w' => ∃ n, 1 ≤ n ∧ n ≤ 16 ∧ u < 16 ^ n ∧ (1 < n → 16 ^ (n - 1) ≤ u) ∧ e = .returned (.string ⟨(hexN n u).toArray⟩) ∧ Below w.heap.size w w' := by
  have HB := Lib.hid (fbits16 u hu w hc hg)
  have HI : Hid (Calls Tryz.prog 92 #[.int .u64 u, .int .i64 16] w fun e w' => ∃ n, 1 ≤ n ∧ n ≤ 16 ∧ u < 16 ^ n ∧ (1 < n → 16 ^ (n - 1) ≤ u) ∧ e = .returned (.string ⟨(hexN n u).toArray⟩) ∧ Below w.heap.size w w') := Lib.hid (by
    go_enter Tryz.func92, Tryz.ntmps92
    go_wp2_with fail
    refine HB.out.mono ?_
    rintro e w1 ⟨n, h1, h2, h3, h4, rfl, hb⟩
    have H4 := Lib.hid h4
    have H3 := Lib.hid h3
    clear h3 h4
    go_wp2_with fail
    go_ret
    exact ⟨n, h1, h2, H3.out, H4.out, rfl, hb⟩)
  clear HB
  go_enter Tryz.func48, Tryz.ntmps48
  go_wp2_with fail
  refine HI.out.mono ?_
  rintro e w1 ⟨n, h1, h2, h3, h4, rfl, hb⟩
  have H4 := Lib.hid h4
  have H3 := Lib.hid h3
  clear h3 h4
  go_wp2_with fail
  go_ret
  exact ⟨n, h1, h2, H3.out, H4.out, rfl, hb⟩
/-- strconv.Itoa. -/
theorem itoa_any (n : Int) (h0 : -9223372036854775808 ≤ n) (h1 : n ≤ 9223372036854775807) (w : World) (htab : Lib.TabIs Tryz.prog w "internal/strconv.uint64pow10" .u64 Lib.pow10Tab) :
    Calls Tryz.prog 76 #[.int .i64 n] w fun e w' => e = .returned (.string ⟨(Lib.itoa n).toArray⟩) ∧ Below w.heap.size w w' :=
  (Any.strconv_Itoa Tryz.laysIt n h0 h1 w htab).mono fun e w' h => ⟨h.1, by obtain ⟨k, os, rfl⟩ := h.2; exact grow_below _ _ _⟩
end Fu
end Go.Proofs.YtpneejlilgepfaaGreatDoor
namespace Go.Proofs.YtpneejlilgepfaaGreatDoor
open Go.RowKit
set_option linter.unusedVariables false
namespace Fu
/-- A digit's byte. -/
def dgt (x : Nat) : UInt8 := UInt8.ofNat (48 + x)
theorem dec_small (u : Nat) (h : u < 10) : Lib.decDigits u = [dgt u] := by rw [Lib.decDigits, dif_pos h]; rfl
theorem dec_big (u : Nat) (h : ¬ u < 10) : Lib.decDigits u = Lib.decDigits (u / 10) ++ [dgt (u % 10)] := by rw [Lib.decDigits, dif_neg h]; rfl
/-- One digit cut out of the ten. -/
theorem cut10 (y : Int) (h0 : 0 ≤ y) (h1 : y < 10) (W : World) : (Instr.slice 9 (.string ⟨#[48, 49, 50, 51, 52, 53, 54, 55, 56, 57]⟩) (some (.int .u64 y)) (some (.int .u64 (y + 1))) none).run Tryz.prog W = .ok (.string ⟨#[dgt y.toNat]⟩) W := by
  rcases (by omega : y = 0 ∨ y = 1 ∨ y = 2 ∨ y = 3 ∨ y = 4 ∨ y = 5 ∨ y = 6 ∨ y = 7 ∨ y = 8 ∨ y = 9) with rfl | rfl | rfl | rfl | rfl | rfl | rfl | rfl | rfl | rfl
  all_goals kernel_rfl
set_option maxRecDepth 100000 in
theorem rdigits_any (u : Nat) (hu : u < 18446744073709551616) (w : World) :
    Calls Tryz.prog 117 #[.int .u64 u] w fun e w' => e = .returned (.string ⟨(Lib.decDigits u).toArray⟩) ∧ w' = w := by
  have hc := cut10 ((u : Int) % 10) (by omega) (by omega)
  go_enter Tryz.func117, Tryz.ntmps117
  go_wp2_with fail
  go_loop [0, 3] (fun n s => ∃ (v : Nat) (r : List UInt8), v ≤ u ∧ n = .int .u64 v ∧ s = .string ⟨(dgt (v % 10) :: r).toArray⟩ ∧ Lib.decDigits u = Lib.decDigits v ++ r) (fun n _ => (intOf n).toNat)
  case atStart =>
    refine ⟨u, [], Nat.le_refl _, rfl, ?_, by simp⟩
    first | rfl | (have e : ((u : Int) % 10).toNat = u % 10 := by omega
                   rw [e])
  case round =>
    obtain ⟨v, r, hv, rfl, rfl, hd⟩ := hrel
    have hrl : r.length ≤ 20 := by
      have h1 := congrArg List.length hd
      rw [List.length_append, Lib.decDigits_length] at h1
      have h2 := Lib.nDigits_le20 u hu
      omega
    have hrl2 : ¬ (9223372036854775807 < 1 + (r.length + 1)) := by omega
    have HD := Lib.hid hd
    clear hd hc
    by_cases h : 10 ≤ v
    · have h' : (10 : Int) ≤ v := by omega
      have hc := cut10 ((v : Int) / 10 % 10) (by omega) (by omega)
      go_wp2_with fail
      refine ⟨⟨v / 10, dgt (v % 10) :: r, by omega, congrArg (Value.int .u64) (by omega), ?_, ?_⟩, by simp [intOf]; omega⟩
      · apply congrArg Value.string
        rfl
      · rw [HD.out, dec_big v (by omega), List.append_assoc]
        rfl
    · have h' : (v : Int) < 10 := by omega
      go_wp2_with fail
      go_ret
      have e := HD.out
      rw [dec_small v (by omega)] at e
      refine ⟨?_, rfl⟩
      rw [e, Nat.mod_eq_of_lt (by omega : v < 10)]
      rfl
end Fu
end Go.Proofs.YtpneejlilgepfaaGreatDoor
namespace Go.Proofs.YtpneejlilgepfaaGreatDoor
open Go.RowKit
set_option linter.unusedVariables false
namespace Fu
/-- One hexadecimal digit cut out of the sixteen. -/
theorem cut16 (y : Nat) (h : y < 16) (W : World) : (Instr.slice 9 (.string ⟨#[48, 49, 50, 51, 52, 53, 54, 55, 56, 57, 97, 98, 99, 100, 101, 102]⟩) (some (.int .u64 (y : Int))) (some (.int .u64 ((y : Int) + 1))) none).run Tryz.prog W = .ok (.string ⟨#[UInt8.ofNat (hd y)]⟩) W := by
  rcases (by omega : y = 0 ∨ y = 1 ∨ y = 2 ∨ y = 3 ∨ y = 4 ∨ y = 5 ∨ y = 6 ∨ y = 7 ∨ y = 8 ∨ y = 9 ∨ y = 10 ∨ y = 11 ∨ y = 12 ∨ y = 13 ∨ y = 14 ∨ y = 15) with rfl | rfl | rfl | rfl | rfl | rfl | rfl | rfl | rfl | rfl | rfl | rfl | rfl | rfl | rfl | rfl
  all_goals kernel_rfl
def hdb (x : Nat) : UInt8 := UInt8.ofNat (hd x)
/-- "x" and the first j of the sixteen digits. -/
def top (v j : Nat) : ByteArray := ⟨(120 :: (hexN 16 v).take j).toArray⟩
theorem top_step (v j : Nat) (h : j < 16) : top v j ++ ⟨#[hdb (v / 16 ^ (15 - j) % 16)]⟩ = top v (j + 1) := by
  unfold top
  rw [List.take_succ_eq_append_getElem (by rw [hexN_len]; exact h)]
  have e : (hexN 16 v)[j]'(by rw [hexN_len]; exact h) = hdb (v / 16 ^ (15 - j) % 16) := by simp [hexN, hdb]
  rw [e]
  apply ByteArray.ext
  simp
end Fu
end Go.Proofs.YtpneejlilgepfaaGreatDoor
namespace Go.Proofs.YtpneejlilgepfaaGreatDoor
open Go.RowKit
set_option linter.unusedVariables false
namespace Fu
open _root_.Go.Proofs.YtpneejlilgepfaaGreatDoor.Nm (bitsW rbits_any)
theorem ext16 (y : Nat) (h : y < 16) : (⟨#[48, 49, 50, 51, 52, 53, 54, 55, 56, 57, 97, 98, 99, 100, 101, 102]⟩ : ByteArray).extract y (y + 1) = ⟨#[hdb y]⟩ := by
  rcases (by omega : y = 0 ∨ y = 1 ∨ y = 2 ∨ y = 3 ∨ y = 4 ∨ y = 5 ∨ y = 6 ∨ y = 7 ∨ y = 8 ∨ y = 9 ∨ y = 10 ∨ y = 11 ∨ y = 12 ∨ y = 13 ∨ y = 14 ∨ y = 15) with rfl | rfl | rfl | rfl | rfl | rfl | rfl | rfl | rfl | rfl | rfl | rfl | rfl | rfl | rfl | rfl
  all_goals rfl
theorem top_size (v j : Nat) (h : j ≤ 16) : (top v j).size = j + 1 := by
  show (120 :: (hexN 16 v).take j).toArray.size = j + 1
  simp [hexN_len]; omega
set_option maxRecDepth 100000 in
set_option maxHeartbeats 2000000 in
theorem rtext_num (b : Nat) (hb : b < 18446744073709551616) (v : Nat) (hv : bitsW b = v) (hv0 : v < 18446744073709551616) (n1 : ((v : Int) == 9221120237041090561) = false) (n2 : ((v : Int) == 9218868437227405312) = false) (n3 : ((v : Int) == 18442240474082181120) = false) (n4 : ((v : Int) == 0) = false) (n5 : ((v : Int) == 9223372036854775808) = false) (w : World) :
    Calls Tryz.prog 139 #[.float .f64 b] w fun e w' => e = .returned (.string (top v 16)) ∧ w' = w := by
  have HB := Lib.hid (rbits_any b hb w)
  rw [hv] at HB
  clear hv
  go_enter Tryz.func139, Tryz.ntmps139
  go_wp2_with fail
  refine HB.out.mono ?_
  rintro e w1 ⟨rfl, rfl⟩
  go_wp2_with fail
  go_loop [4, 5] (fun s i => ∃ j : Int, 0 ≤ j ∧ j ≤ 16 ∧ i = .int .i64 (15 - j) ∧ s = .string (top v j.toNat)) (fun _ i => (intOf i + 1).toNat)
  case atStart => exact ⟨0, by omega, by omega, rfl, rfl⟩
  case round =>
    obtain ⟨j, hj0, hj, rfl, rfl⟩ := hrel
    rcases (by omega : j = 0 ∨ j = 1 ∨ j = 2 ∨ j = 3 ∨ j = 4 ∨ j = 5 ∨ j = 6 ∨ j = 7 ∨ j = 8 ∨ j = 9 ∨ j = 10 ∨ j = 11 ∨ j = 12 ∨ j = 13 ∨ j = 14 ∨ j = 15 ∨ j = 16) with rfl | rfl | rfl | rfl | rfl | rfl | rfl | rfl | rfl | rfl | rfl | rfl | rfl | rfl | rfl | rfl | rfl
    · have hm : bits BinOp.and IntKind.u64 ((v : Int) / 1152921504606846976) 15 = ((v / 16 ^ (15 - 0) % 16 : Nat) : Int) := by
        have h := mask15 (v / 1152921504606846976) (Nat.lt_of_le_of_lt (Nat.div_le_self _ _) hv0)
        rw [show ((v : Int) / 1152921504606846976) = ((v / 1152921504606846976 : Nat) : Int) by omega]
        exact h
      have hcc := cut16 (v / 16 ^ (15 - 0) % 16) (Nat.mod_lt _ (by omega))
      have hst := top_step v 0 (by omega)
      have hy : v / 16 ^ (15 - 0) % 16 < 16 := Nat.mod_lt _ (by omega)
      generalize v / 16 ^ (15 - 0) % 16 = y at *
      have hy1 : (y : Int) < 16 := by omega
      have hsz : ¬ (9223372036854775807 < (top v 0).size + 1) := by rw [top_size v 0 (by omega)]; omega
      go_wp2_with fail
      refine ⟨⟨0 + 1, by omega, by omega, rfl, ?_⟩, by simp [intOf]⟩
      exact congrArg Value.string hst
    · have hm : bits BinOp.and IntKind.u64 ((v : Int) / 72057594037927936) 15 = ((v / 16 ^ (15 - 1) % 16 : Nat) : Int) := by
        have h := mask15 (v / 72057594037927936) (Nat.lt_of_le_of_lt (Nat.div_le_self _ _) hv0)
        rw [show ((v : Int) / 72057594037927936) = ((v / 72057594037927936 : Nat) : Int) by omega]
        exact h
      have hcc := cut16 (v / 16 ^ (15 - 1) % 16) (Nat.mod_lt _ (by omega))
      have hst := top_step v 1 (by omega)
      have hy : v / 16 ^ (15 - 1) % 16 < 16 := Nat.mod_lt _ (by omega)
      generalize v / 16 ^ (15 - 1) % 16 = y at *
      have hy1 : (y : Int) < 16 := by omega
      have hsz : ¬ (9223372036854775807 < (top v 1).size + 1) := by rw [top_size v 1 (by omega)]; omega
      go_wp2_with fail
      refine ⟨⟨1 + 1, by omega, by omega, rfl, ?_⟩, by simp [intOf]⟩
      exact congrArg Value.string hst
    · have hm : bits BinOp.and IntKind.u64 ((v : Int) / 4503599627370496) 15 = ((v / 16 ^ (15 - 2) % 16 : Nat) : Int) := by
        have h := mask15 (v / 4503599627370496) (Nat.lt_of_le_of_lt (Nat.div_le_self _ _) hv0)
        rw [show ((v : Int) / 4503599627370496) = ((v / 4503599627370496 : Nat) : Int) by omega]
        exact h
      have hcc := cut16 (v / 16 ^ (15 - 2) % 16) (Nat.mod_lt _ (by omega))
      have hst := top_step v 2 (by omega)
      have hy : v / 16 ^ (15 - 2) % 16 < 16 := Nat.mod_lt _ (by omega)
      generalize v / 16 ^ (15 - 2) % 16 = y at *
      have hy1 : (y : Int) < 16 := by omega
      have hsz : ¬ (9223372036854775807 < (top v 2).size + 1) := by rw [top_size v 2 (by omega)]; omega
      go_wp2_with fail
      refine ⟨⟨2 + 1, by omega, by omega, rfl, ?_⟩, by simp [intOf]⟩
      exact congrArg Value.string hst
    · have hm : bits BinOp.and IntKind.u64 ((v : Int) / 281474976710656) 15 = ((v / 16 ^ (15 - 3) % 16 : Nat) : Int) := by
        have h := mask15 (v / 281474976710656) (Nat.lt_of_le_of_lt (Nat.div_le_self _ _) hv0)
        rw [show ((v : Int) / 281474976710656) = ((v / 281474976710656 : Nat) : Int) by omega]
        exact h
      have hcc := cut16 (v / 16 ^ (15 - 3) % 16) (Nat.mod_lt _ (by omega))
      have hst := top_step v 3 (by omega)
      have hy : v / 16 ^ (15 - 3) % 16 < 16 := Nat.mod_lt _ (by omega)
      generalize v / 16 ^ (15 - 3) % 16 = y at *
      have hy1 : (y : Int) < 16 := by omega
      have hsz : ¬ (9223372036854775807 < (top v 3).size + 1) := by rw [top_size v 3 (by omega)]; omega
      go_wp2_with fail
      refine ⟨⟨3 + 1, by omega, by omega, rfl, ?_⟩, by simp [intOf]⟩
      exact congrArg Value.string hst
    · have hm : bits BinOp.and IntKind.u64 ((v : Int) / 17592186044416) 15 = ((v / 16 ^ (15 - 4) % 16 : Nat) : Int) := by
        have h := mask15 (v / 17592186044416) (Nat.lt_of_le_of_lt (Nat.div_le_self _ _) hv0)
        rw [show ((v : Int) / 17592186044416) = ((v / 17592186044416 : Nat) : Int) by omega]
        exact h
      have hcc := cut16 (v / 16 ^ (15 - 4) % 16) (Nat.mod_lt _ (by omega))
      have hst := top_step v 4 (by omega)
      have hy : v / 16 ^ (15 - 4) % 16 < 16 := Nat.mod_lt _ (by omega)
      generalize v / 16 ^ (15 - 4) % 16 = y at *
      have hy1 : (y : Int) < 16 := by omega
      have hsz : ¬ (9223372036854775807 < (top v 4).size + 1) := by rw [top_size v 4 (by omega)]; omega
      go_wp2_with fail
      refine ⟨⟨4 + 1, by omega, by omega, rfl, ?_⟩, by simp [intOf]⟩
      exact congrArg Value.string hst
    · have hm : bits BinOp.and IntKind.u64 ((v : Int) / 1099511627776) 15 = ((v / 16 ^ (15 - 5) % 16 : Nat) : Int) := by
        have h := mask15 (v / 1099511627776) (Nat.lt_of_le_of_lt (Nat.div_le_self _ _) hv0)
        rw [show ((v : Int) / 1099511627776) = ((v / 1099511627776 : Nat) : Int) by omega]
        exact h
      have hcc := cut16 (v / 16 ^ (15 - 5) % 16) (Nat.mod_lt _ (by omega))
      have hst := top_step v 5 (by omega)
      have hy : v / 16 ^ (15 - 5) % 16 < 16 := Nat.mod_lt _ (by omega)
      generalize v / 16 ^ (15 - 5) % 16 = y at *
      have hy1 : (y : Int) < 16 := by omega
      have hsz : ¬ (9223372036854775807 < (top v 5).size + 1) := by rw [top_size v 5 (by omega)]; omega
      go_wp2_with fail
      refine ⟨⟨5 + 1, by omega, by omega, rfl, ?_⟩, by simp [intOf]⟩
      exact congrArg Value.string hst
    · have hm : bits BinOp.and IntKind.u64 ((v : Int) / 68719476736) 15 = ((v / 16 ^ (15 - 6) % 16 : Nat) : Int) := by
        have h := mask15 (v / 68719476736) (Nat.lt_of_le_of_lt (Nat.div_le_self _ _) hv0)
        rw [show ((v : Int) / 68719476736) = ((v / 68719476736 : Nat) : Int) by omega]
        exact h
      have hcc := cut16 (v / 16 ^ (15 - 6) % 16) (Nat.mod_lt _ (by omega))
      have hst := top_step v 6 (by omega)
      have hy : v / 16 ^ (15 - 6) % 16 < 16 := Nat.mod_lt _ (by omega)
      generalize v / 16 ^ (15 - 6) % 16 = y at *
      have hy1 : (y : Int) < 16 := by omega
      have hsz : ¬ (9223372036854775807 < (top v 6).size + 1) := by rw [top_size v 6 (by omega)]; omega
      go_wp2_with fail
      refine ⟨⟨6 + 1, by omega, by omega, rfl, ?_⟩, by simp [intOf]⟩
      exact congrArg Value.string hst
    · have hm : bits BinOp.and IntKind.u64 ((v : Int) / 4294967296) 15 = ((v / 16 ^ (15 - 7) % 16 : Nat) : Int) := by
        have h := mask15 (v / 4294967296) (Nat.lt_of_le_of_lt (Nat.div_le_self _ _) hv0)
        rw [show ((v : Int) / 4294967296) = ((v / 4294967296 : Nat) : Int) by omega]
        exact h
      have hcc := cut16 (v / 16 ^ (15 - 7) % 16) (Nat.mod_lt _ (by omega))
      have hst := top_step v 7 (by omega)
      have hy : v / 16 ^ (15 - 7) % 16 < 16 := Nat.mod_lt _ (by omega)
      generalize v / 16 ^ (15 - 7) % 16 = y at *
      have hy1 : (y : Int) < 16 := by omega
      have hsz : ¬ (9223372036854775807 < (top v 7).size + 1) := by rw [top_size v 7 (by omega)]; omega
      go_wp2_with fail
      refine ⟨⟨7 + 1, by omega, by omega, rfl, ?_⟩, by simp [intOf]⟩
      exact congrArg Value.string hst
    · have hm : bits BinOp.and IntKind.u64 ((v : Int) / 268435456) 15 = ((v / 16 ^ (15 - 8) % 16 : Nat) : Int) := by
        have h := mask15 (v / 268435456) (Nat.lt_of_le_of_lt (Nat.div_le_self _ _) hv0)
        rw [show ((v : Int) / 268435456) = ((v / 268435456 : Nat) : Int) by omega]
        exact h
      have hcc := cut16 (v / 16 ^ (15 - 8) % 16) (Nat.mod_lt _ (by omega))
      have hst := top_step v 8 (by omega)
      have hy : v / 16 ^ (15 - 8) % 16 < 16 := Nat.mod_lt _ (by omega)
      generalize v / 16 ^ (15 - 8) % 16 = y at *
      have hy1 : (y : Int) < 16 := by omega
      have hsz : ¬ (9223372036854775807 < (top v 8).size + 1) := by rw [top_size v 8 (by omega)]; omega
      go_wp2_with fail
      refine ⟨⟨8 + 1, by omega, by omega, rfl, ?_⟩, by simp [intOf]⟩
      exact congrArg Value.string hst
    · have hm : bits BinOp.and IntKind.u64 ((v : Int) / 16777216) 15 = ((v / 16 ^ (15 - 9) % 16 : Nat) : Int) := by
        have h := mask15 (v / 16777216) (Nat.lt_of_le_of_lt (Nat.div_le_self _ _) hv0)
        rw [show ((v : Int) / 16777216) = ((v / 16777216 : Nat) : Int) by omega]
        exact h
      have hcc := cut16 (v / 16 ^ (15 - 9) % 16) (Nat.mod_lt _ (by omega))
      have hst := top_step v 9 (by omega)
      have hy : v / 16 ^ (15 - 9) % 16 < 16 := Nat.mod_lt _ (by omega)
      generalize v / 16 ^ (15 - 9) % 16 = y at *
      have hy1 : (y : Int) < 16 := by omega
      have hsz : ¬ (9223372036854775807 < (top v 9).size + 1) := by rw [top_size v 9 (by omega)]; omega
      go_wp2_with fail
      refine ⟨⟨9 + 1, by omega, by omega, rfl, ?_⟩, by simp [intOf]⟩
      exact congrArg Value.string hst
    · have hm : bits BinOp.and IntKind.u64 ((v : Int) / 1048576) 15 = ((v / 16 ^ (15 - 10) % 16 : Nat) : Int) := by
        have h := mask15 (v / 1048576) (Nat.lt_of_le_of_lt (Nat.div_le_self _ _) hv0)
        rw [show ((v : Int) / 1048576) = ((v / 1048576 : Nat) : Int) by omega]
        exact h
      have hcc := cut16 (v / 16 ^ (15 - 10) % 16) (Nat.mod_lt _ (by omega))
      have hst := top_step v 10 (by omega)
      have hy : v / 16 ^ (15 - 10) % 16 < 16 := Nat.mod_lt _ (by omega)
      generalize v / 16 ^ (15 - 10) % 16 = y at *
      have hy1 : (y : Int) < 16 := by omega
      have hsz : ¬ (9223372036854775807 < (top v 10).size + 1) := by rw [top_size v 10 (by omega)]; omega
      go_wp2_with fail
      refine ⟨⟨10 + 1, by omega, by omega, rfl, ?_⟩, by simp [intOf]⟩
      exact congrArg Value.string hst
    · have hm : bits BinOp.and IntKind.u64 ((v : Int) / 65536) 15 = ((v / 16 ^ (15 - 11) % 16 : Nat) : Int) := by
        have h := mask15 (v / 65536) (Nat.lt_of_le_of_lt (Nat.div_le_self _ _) hv0)
        rw [show ((v : Int) / 65536) = ((v / 65536 : Nat) : Int) by omega]
        exact h
      have hcc := cut16 (v / 16 ^ (15 - 11) % 16) (Nat.mod_lt _ (by omega))
      have hst := top_step v 11 (by omega)
      have hy : v / 16 ^ (15 - 11) % 16 < 16 := Nat.mod_lt _ (by omega)
      generalize v / 16 ^ (15 - 11) % 16 = y at *
      have hy1 : (y : Int) < 16 := by omega
      have hsz : ¬ (9223372036854775807 < (top v 11).size + 1) := by rw [top_size v 11 (by omega)]; omega
      go_wp2_with fail
      refine ⟨⟨11 + 1, by omega, by omega, rfl, ?_⟩, by simp [intOf]⟩
      exact congrArg Value.string hst
    · have hm : bits BinOp.and IntKind.u64 ((v : Int) / 4096) 15 = ((v / 16 ^ (15 - 12) % 16 : Nat) : Int) := by
        have h := mask15 (v / 4096) (Nat.lt_of_le_of_lt (Nat.div_le_self _ _) hv0)
        rw [show ((v : Int) / 4096) = ((v / 4096 : Nat) : Int) by omega]
        exact h
      have hcc := cut16 (v / 16 ^ (15 - 12) % 16) (Nat.mod_lt _ (by omega))
      have hst := top_step v 12 (by omega)
      have hy : v / 16 ^ (15 - 12) % 16 < 16 := Nat.mod_lt _ (by omega)
      generalize v / 16 ^ (15 - 12) % 16 = y at *
      have hy1 : (y : Int) < 16 := by omega
      have hsz : ¬ (9223372036854775807 < (top v 12).size + 1) := by rw [top_size v 12 (by omega)]; omega
      go_wp2_with fail
      refine ⟨⟨12 + 1, by omega, by omega, rfl, ?_⟩, by simp [intOf]⟩
      exact congrArg Value.string hst
    · have hm : bits BinOp.and IntKind.u64 ((v : Int) / 256) 15 = ((v / 16 ^ (15 - 13) % 16 : Nat) : Int) := by
        have h := mask15 (v / 256) (Nat.lt_of_le_of_lt (Nat.div_le_self _ _) hv0)
        rw [show ((v : Int) / 256) = ((v / 256 : Nat) : Int) by omega]
        exact h
      have hcc := cut16 (v / 16 ^ (15 - 13) % 16) (Nat.mod_lt _ (by omega))
      have hst := top_step v 13 (by omega)
      have hy : v / 16 ^ (15 - 13) % 16 < 16 := Nat.mod_lt _ (by omega)
      generalize v / 16 ^ (15 - 13) % 16 = y at *
      have hy1 : (y : Int) < 16 := by omega
      have hsz : ¬ (9223372036854775807 < (top v 13).size + 1) := by rw [top_size v 13 (by omega)]; omega
      go_wp2_with fail
      refine ⟨⟨13 + 1, by omega, by omega, rfl, ?_⟩, by simp [intOf]⟩
      exact congrArg Value.string hst
    · have hm : bits BinOp.and IntKind.u64 ((v : Int) / 16) 15 = ((v / 16 ^ (15 - 14) % 16 : Nat) : Int) := by
        have h := mask15 (v / 16) (Nat.lt_of_le_of_lt (Nat.div_le_self _ _) hv0)
        rw [show ((v : Int) / 16) = ((v / 16 : Nat) : Int) by omega]
        exact h
      have hcc := cut16 (v / 16 ^ (15 - 14) % 16) (Nat.mod_lt _ (by omega))
      have hst := top_step v 14 (by omega)
      have hy : v / 16 ^ (15 - 14) % 16 < 16 := Nat.mod_lt _ (by omega)
      generalize v / 16 ^ (15 - 14) % 16 = y at *
      have hy1 : (y : Int) < 16 := by omega
      have hsz : ¬ (9223372036854775807 < (top v 14).size + 1) := by rw [top_size v 14 (by omega)]; omega
      go_wp2_with fail
      refine ⟨⟨14 + 1, by omega, by omega, rfl, ?_⟩, by simp [intOf]⟩
      exact congrArg Value.string hst
    · have hm : bits BinOp.and IntKind.u64 (v : Int) 15 = ((v / 16 ^ (15 - 15) % 16 : Nat) : Int) := by
        have h := mask15 (v / 1) (Nat.lt_of_le_of_lt (Nat.div_le_self _ _) hv0)
        rw [Nat.div_one] at h
        rw [show v / 16 ^ (15 - 15) = v from Nat.div_one v]
        exact h
      have hcc := cut16 (v / 16 ^ (15 - 15) % 16) (Nat.mod_lt _ (by omega))
      have hst := top_step v 15 (by omega)
      have hy : v / 16 ^ (15 - 15) % 16 < 16 := Nat.mod_lt _ (by omega)
      generalize v / 16 ^ (15 - 15) % 16 = y at *
      have hy1 : (y : Int) < 16 := by omega
      have hsz : ¬ (9223372036854775807 < (top v 15).size + 1) := by rw [top_size v 15 (by omega)]; omega
      go_wp2_with fail
      refine ⟨⟨15 + 1, by omega, by omega, rfl, ?_⟩, by simp [intOf]⟩
      exact congrArg Value.string hst
    · go_wp2_with fail
      go_ret
      exact ⟨rfl, rfl⟩
end Fu
end Go.Proofs.YtpneejlilgepfaaGreatDoor
namespace Go.Proofs.YtpneejlilgepfaaGreatDoor
open Go.RowKit
set_option linter.unusedVariables false
namespace Fu
open _root_.Go.Proofs.YtpneejlilgepfaaGreatDoor.Nm (bitsW rbits_any bitsW_lt)
/-- The text of a number with these bits. -/
def textW (v : Nat) : ByteArray :=
  if v = 9221120237041090561 then ⟨#[110, 97, 110]⟩ else
  if v = 9218868437227405312 then ⟨#[105, 110, 102]⟩ else
  if v = 18442240474082181120 then ⟨#[45, 105, 110, 102]⟩ else
  if v = 0 then ⟨#[48]⟩ else
  if v = 9223372036854775808 then ⟨#[45, 48]⟩ else
  top v 16
set_option maxRecDepth 100000 in
theorem rtext_sp1 (b : Nat) (hb : b < 18446744073709551616) (hv : bitsW b = 9221120237041090561) (w : World) :
    Calls Tryz.prog 139 #[.float .f64 b] w fun e w' => e = .returned (.string ⟨#[110, 97, 110]⟩) ∧ w' = w := by
  have HB := Lib.hid (rbits_any b hb w)
  rw [hv] at HB
  clear hv hb
  go_enter Tryz.func139, Tryz.ntmps139
  go_wp2_with fail
  refine HB.out.mono ?_
  rintro e w1 ⟨rfl, rfl⟩
  go_wp2_with fail
  go_ret
  exact ⟨rfl, rfl⟩
set_option maxRecDepth 100000 in
theorem rtext_sp2 (b : Nat) (hb : b < 18446744073709551616) (hv : bitsW b = 9218868437227405312) (w : World) :
    Calls Tryz.prog 139 #[.float .f64 b] w fun e w' => e = .returned (.string ⟨#[105, 110, 102]⟩) ∧ w' = w := by
  have HB := Lib.hid (rbits_any b hb w)
  rw [hv] at HB
  clear hv hb
  go_enter Tryz.func139, Tryz.ntmps139
  go_wp2_with fail
  refine HB.out.mono ?_
  rintro e w1 ⟨rfl, rfl⟩
  go_wp2_with fail
  go_ret
  exact ⟨rfl, rfl⟩
set_option maxRecDepth 100000 in
theorem rtext_sp3 (b : Nat) (hb : b < 18446744073709551616) (hv : bitsW b = 18442240474082181120) (w : World) :
    Calls Tryz.prog 139 #[.float .f64 b] w fun e w' => e = .returned (.string ⟨#[45, 105, 110, 102]⟩) ∧ w' = w := by
  have HB := Lib.hid (rbits_any b hb w)
  rw [hv] at HB
  clear hv hb
  go_enter Tryz.func139, Tryz.ntmps139
  go_wp2_with fail
  refine HB.out.mono ?_
  rintro e w1 ⟨rfl, rfl⟩
  go_wp2_with fail
  go_ret
  exact ⟨rfl, rfl⟩
set_option maxRecDepth 100000 in
theorem rtext_sp4 (b : Nat) (hb : b < 18446744073709551616) (hv : bitsW b = 0) (w : World) :
    Calls Tryz.prog 139 #[.float .f64 b] w fun e w' => e = .returned (.string ⟨#[48]⟩) ∧ w' = w := by
  have HB := Lib.hid (rbits_any b hb w)
  rw [hv] at HB
  clear hv hb
  go_enter Tryz.func139, Tryz.ntmps139
  go_wp2_with fail
  refine HB.out.mono ?_
  rintro e w1 ⟨rfl, rfl⟩
  go_wp2_with fail
  go_ret
  exact ⟨rfl, rfl⟩
set_option maxRecDepth 100000 in
theorem rtext_sp5 (b : Nat) (hb : b < 18446744073709551616) (hv : bitsW b = 9223372036854775808) (w : World) :
    Calls Tryz.prog 139 #[.float .f64 b] w fun e w' => e = .returned (.string ⟨#[45, 48]⟩) ∧ w' = w := by
  have HB := Lib.hid (rbits_any b hb w)
  rw [hv] at HB
  clear hv hb
  go_enter Tryz.func139, Tryz.ntmps139
  go_wp2_with fail
  refine HB.out.mono ?_
  rintro e w1 ⟨rfl, rfl⟩
  go_wp2_with fail
  go_ret
  exact ⟨rfl, rfl⟩
theorem rtext_any (b : Nat) (hb : b < 18446744073709551616) (w : World) :
    Calls Tryz.prog 139 #[.float .f64 b] w fun e w' => e = .returned (.string (textW (bitsW b))) ∧ w' = w := by
  have hl := bitsW_lt b hb
  unfold textW
  by_cases h1 : bitsW b = 9221120237041090561
  · rw [if_pos h1]
    exact rtext_sp1 b hb h1 w
  by_cases h2 : bitsW b = 9218868437227405312
  · rw [if_neg h1, if_pos h2]
    exact rtext_sp2 b hb h2 w
  by_cases h3 : bitsW b = 18442240474082181120
  · rw [if_neg h1, if_neg h2, if_pos h3]
    exact rtext_sp3 b hb h3 w
  by_cases h4 : bitsW b = 0
  · rw [if_neg h1, if_neg h2, if_neg h3, if_pos h4]
    exact rtext_sp4 b hb h4 w
  by_cases h5 : bitsW b = 9223372036854775808
  · rw [if_neg h1, if_neg h2, if_neg h3, if_neg h4, if_pos h5]
    exact rtext_sp5 b hb h5 w
  rw [if_neg h1, if_neg h2, if_neg h3, if_neg h4, if_neg h5]
  exact rtext_num b hb (bitsW b) rfl hl (by simpa using (by omega : ¬ ((bitsW b : Int) = 9221120237041090561))) (by simpa using (by omega : ¬ ((bitsW b : Int) = 9218868437227405312))) (by simpa using (by omega : ¬ ((bitsW b : Int) = 18442240474082181120))) (by simpa using (by omega : ¬ ((bitsW b : Int) = 0))) (by simpa using (by omega : ¬ ((bitsW b : Int) = 9223372036854775808))) w
end Fu
end Go.Proofs.YtpneejlilgepfaaGreatDoor
namespace Go.Proofs.YtpneejlilgepfaaGreatDoor
open Go.RowKit
set_option linter.unusedVariables false
namespace Fu
/-- Two lists whose first parts have no slash. -/
theorem split_eq {a a' b b' : List UInt8} (ha : ∀ x ∈ a, x ≠ 47) (ha' : ∀ x ∈ a', x ≠ 47) (h : a ++ 47 :: b = a' ++ 47 :: b') : a = a' ∧ b = b' := by
  induction a generalizing a' with
  | nil =>
    cases a' with
    | nil => simpa using h
    | cons y a' =>
      exfalso
      have h1 : (47 : UInt8) = y := by simpa using (List.cons.inj (by simpa using h)).1
      exact ha' y (by simp) h1.symm
  | cons x a ih =>
    cases a' with
    | nil =>
      exfalso
      have h1 : x = (47 : UInt8) := by simpa using (List.cons.inj (by simpa using h)).1
      exact ha x (by simp) h1
    | cons y a' =>
      rw [List.cons_append, List.cons_append] at h
      obtain ⟨h1, h2⟩ := List.cons.inj h
      obtain ⟨h3, h4⟩ := ih (fun z hz => ha z (List.mem_cons_of_mem _ hz)) (fun z hz => ha' z (List.mem_cons_of_mem _ hz)) h2
      exact ⟨by rw [h1, h3], h4⟩
theorem dgt_ne (x : Nat) (h : x < 10) : dgt x ≠ 47 := by
  rcases (by omega : x = 0 ∨ x = 1 ∨ x = 2 ∨ x = 3 ∨ x = 4 ∨ x = 5 ∨ x = 6 ∨ x = 7 ∨ x = 8 ∨ x = 9) with rfl | rfl | rfl | rfl | rfl | rfl | rfl | rfl | rfl | rfl <;> decide
theorem dgt_inj (x y : Nat) (hx : x < 10) (hy : y < 10) (h : dgt x = dgt y) : x = y := by
  have h1 := congrArg UInt8.toNat h
  simp only [dgt, UInt8.toNat_ofNat'] at h1
  omega
theorem dec_noslash (n : Nat) : ∀ x ∈ Lib.decDigits n, x ≠ 47 := by
  induction n using Nat.strongRecOn with
  | ind n ih =>
    by_cases h : n < 10
    · rw [dec_small n h]
      intro x hx
      rw [List.mem_singleton.1 hx]
      exact dgt_ne n h
    · rw [dec_big n h]
      intro x hx
      rcases List.mem_append.1 hx with hx | hx
      · exact ih (n / 10) (by omega) x hx
      · rw [List.mem_singleton.1 hx]
        exact dgt_ne _ (Nat.mod_lt _ (by omega))
theorem dec_ne_nil (n : Nat) : Lib.decDigits n ≠ [] := by
  by_cases h : n < 10
  · rw [dec_small n h]; simp
  · rw [dec_big n h]; simp
theorem dec_inj : ∀ (n m : Nat), Lib.decDigits n = Lib.decDigits m → n = m := by
  intro n
  induction n using Nat.strongRecOn with
  | ind n ih =>
    intro m hm
    by_cases h : n < 10
    · by_cases h' : m < 10
      · rw [dec_small n h, dec_small m h'] at hm
        exact dgt_inj n m h h' (List.cons.inj hm).1
      · exfalso
        rw [dec_small n h, dec_big m h'] at hm
        have h1 := congrArg List.length hm
        rw [List.length_append, List.length_singleton, List.length_singleton] at h1
        exact dec_ne_nil (m / 10) (List.eq_nil_of_length_eq_zero (by omega))
    · by_cases h' : m < 10
      · exfalso
        rw [dec_small m h', dec_big n h] at hm
        have h1 := congrArg List.length hm
        rw [List.length_append, List.length_singleton, List.length_singleton] at h1
        exact dec_ne_nil (n / 10) (List.eq_nil_of_length_eq_zero (by omega))
      · rw [dec_big n h, dec_big m h'] at hm
        obtain ⟨h1, h2⟩ := List.append_inj' hm rfl
        have h3 := ih (n / 10) (by omega) (m / 10) h1
        have h4 := dgt_inj _ _ (Nat.mod_lt _ (by omega)) (Nat.mod_lt _ (by omega)) (List.cons.inj h2).1
        omega
theorem hd_inj (x y : Nat) (hx : x < 16) (hy : y < 16) (h : hd x = hd y) : x = y := by
  unfold hd at h
  split at h <;> split at h <;> omega
theorem hd_ne (x : Nat) (h : x < 16) : UInt8.ofNat (hd x) ≠ 47 := by
  intro hh
  have h1 := congrArg UInt8.toNat hh
  rw [UInt8.toNat_ofNat'] at h1
  have h2 := hd_lt x h
  have h3 : hd x ≠ 47 := by unfold hd; split <;> omega
  have h4 : (47 : UInt8).toNat = 47 := rfl
  omega
theorem hexN_digit (v w n : Nat) (h : hexN n v = hexN n w) (i : Nat) (hi : i < n) : v / 16 ^ i % 16 = w / 16 ^ i % 16 := by
  have h1 : (hexN n v)[n - 1 - i]'(by rw [hexN_len]; omega) = (hexN n w)[n - 1 - i]'(by rw [hexN_len]; omega) := by simp [h]
  simp only [hexN, List.getElem_map, List.getElem_range] at h1
  rw [show n - 1 - (n - 1 - i) = i by omega] at h1
  have h2 := congrArg UInt8.toNat h1
  rw [UInt8.toNat_ofNat', UInt8.toNat_ofNat'] at h2
  have h3 := hd_lt (v / 16 ^ i % 16) (Nat.mod_lt _ (by omega))
  have h4 := hd_lt (w / 16 ^ i % 16) (Nat.mod_lt _ (by omega))
  exact hd_inj _ _ (Nat.mod_lt _ (by omega)) (Nat.mod_lt _ (by omega)) (by omega)
theorem of_digits : ∀ (n v w : Nat), v < 16 ^ n → w < 16 ^ n → (∀ i, i < n → v / 16 ^ i % 16 = w / 16 ^ i % 16) → v = w
  | 0, v, w, hv, hw, _ => by simp at hv hw; omega
  | n + 1, v, w, hv, hw, h => by
    have h0 := h 0 (by omega)
    simp only [Nat.pow_zero, Nat.div_one] at h0
    have h1 := of_digits n (v / 16) (w / 16) (by rw [Nat.pow_succ] at hv; omega) (by rw [Nat.pow_succ] at hw; omega) (fun i hi => by
      have := h (i + 1) (by omega)
      rw [Nat.pow_succ, Nat.mul_comm, ← Nat.div_div_eq_div_mul, ← Nat.div_div_eq_div_mul] at this
      exact this)
    omega
theorem hexN_inj (v w : Nat) (hv : v < 18446744073709551616) (hw : w < 18446744073709551616) (h : hexN 16 v = hexN 16 w) : v = w :=
  of_digits 16 v w (by simpa using hv) (by simpa using hw) (hexN_digit v w 16 h)
theorem top_list (v : Nat) : (top v 16).data.toList = 120 :: hexN 16 v := by
  show ((120 :: (hexN 16 v).take 16).toArray).toList = _
  rw [List.take_of_length_le (by rw [hexN_len]; omega)]
theorem textW_noslash (v : Nat) : ∀ x ∈ (textW v).data.toList, x ≠ 47 := by
  have ht : ∀ x ∈ (top v 16).data.toList, x ≠ 47 := by
    rw [top_list]
    intro x hx
    rcases List.mem_cons.1 hx with rfl | hx
    · decide
    · simp only [hexN, List.mem_map, List.mem_range] at hx
      obtain ⟨i, -, rfl⟩ := hx
      exact hd_ne _ (Nat.mod_lt _ (by omega))
  unfold textW
  split
  · decide
  · split
    · decide
    · split
      · decide
      · split
        · decide
        · split
          · decide
          · exact ht
/-- The text of one of the five special numbers, or none. -/
theorem textW_sp (v : Nat) : (v = 9221120237041090561 ∧ textW v = ⟨#[110, 97, 110]⟩) ∨ (v = 9218868437227405312 ∧ textW v = ⟨#[105, 110, 102]⟩) ∨ (v = 18442240474082181120 ∧ textW v = ⟨#[45, 105, 110, 102]⟩) ∨ (v = 0 ∧ textW v = ⟨#[48]⟩) ∨ (v = 9223372036854775808 ∧ textW v = ⟨#[45, 48]⟩) ∨ textW v = top v 16 := by
  unfold textW
  by_cases h1 : v = 9221120237041090561
  · exact .inl ⟨h1, by rw [if_pos h1]⟩
  · by_cases h2 : v = 9218868437227405312
    · exact .inr (.inl ⟨h2, by rw [if_neg h1, if_pos h2]⟩)
    · by_cases h3 : v = 18442240474082181120
      · exact .inr (.inr (.inl ⟨h3, by rw [if_neg h1, if_neg h2, if_pos h3]⟩))
      · by_cases h4 : v = 0
        · exact .inr (.inr (.inr (.inl ⟨h4, by rw [if_neg h1, if_neg h2, if_neg h3, if_pos h4]⟩)))
        · by_cases h5 : v = 9223372036854775808
          · exact .inr (.inr (.inr (.inr (.inl ⟨h5, by rw [if_neg h1, if_neg h2, if_neg h3, if_neg h4, if_pos h5]⟩))))
          · exact .inr (.inr (.inr (.inr (.inr (by rw [if_neg h1, if_neg h2, if_neg h3, if_neg h4, if_neg h5])))))
theorem sp_top {v : Nat} {s : ByteArray} (h : s = top v 16) (hs : s.size < 17) : False := by
  rw [h, top_size v 16 (by omega)] at hs
  omega
theorem textW_inj (v w : Nat) (hv : v < 18446744073709551616) (hw : w < 18446744073709551616) (h : textW v = textW w) : v = w := by
  rcases textW_sp v with ⟨e1, t1⟩ | ⟨e1, t1⟩ | ⟨e1, t1⟩ | ⟨e1, t1⟩ | ⟨e1, t1⟩ | t1 <;>
  rcases textW_sp w with ⟨e2, t2⟩ | ⟨e2, t2⟩ | ⟨e2, t2⟩ | ⟨e2, t2⟩ | ⟨e2, t2⟩ | t2 <;>
  rw [t1, t2] at h <;>
  first
    | exact e1.trans e2.symm
    | (exfalso; revert h; decide)
    | exact absurd (sp_top h (by decide)) not_false
    | exact absurd (sp_top h.symm (by decide)) not_false
    | exact hexN_inj v w hv hw (by
        have h2 := congrArg (fun b : ByteArray => b.data.toList) h
        simp only [top_list] at h2
        exact (List.cons.inj h2).2)
theorem bytes_ext {a b : ByteArray} (h : a.data.toList = b.data.toList) : a = b := by
  apply ByteArray.ext
  exact Array.toList_inj.1 h
end Fu
end Go.Proofs.YtpneejlilgepfaaGreatDoor
