/- strconv.FormatUint in base 16, strconv.Itoa. -/
/- The reference's decimal digits of any number. -/
/- The reference's text of a number. -/
/- The reference's text of a number: the walk. -/
/- The reference's text of any number. -/
/- Texts of numbers are equal exactly if the numbers are: plain lemmas. -/
import Derived.Test.YtpneejlilgepfaaDoorMsam
import Derived.Lib.ItoaLen
import Derived.Test.YtpneejlilgepfaaDoorMsad
import Derived.Test.YtpneejlilgepfaaDoorMsae
import Derived.Lib.Join
namespace Go.Proofs.YtpneejlilgepfaaDoor
open Go.RowKit Go.Shelf Go.Sort
set_option linter.unusedVariables false

def Tryd.laysIt_ren : Go.Shelf.Ren := ⟨fun | 171 => 21 | 243 => 36 | 246 => 51 | 283 => 47 | 284 => 48 | 285 => 49 | 286 => 50 | 129 => 62 | 317 => 61 | 318 => 63 | 319 => 64 | 320 => 65 | 337 => 72 | 338 => 73 | n => n, fun | 3 => 3 | 9 => 9 | 2 => 2 | 4 => 4 | 171 => 86 | 0 => 0 | 53 => 22 | 37 => 32 | 5 => 5 | 173 => 89 | 212 => 107 | 51 => 108 | 20 => 20 | 213 => 109 | 46 => 85 | 232 => 117 | 233 => 118 | n => n, fun | 17 => 0 | 18 => 3 | 19 => 4 | n => n⟩
theorem Tryd.laysIt : Go.Proofs.LaysM.n171 Tryd.prog Tryd.laysIt_ren := {
  mixed := by kernel_rfl
  f129 := Tryd.func62.trans (congrArg some (by kernel_rfl))
  f171 := Tryd.func21.trans (congrArg some (by kernel_rfl))
  f243 := Tryd.func36.trans (congrArg some (by kernel_rfl))
  f246 := Tryd.func51.trans (congrArg some (by kernel_rfl))
  f283 := Tryd.func47.trans (congrArg some (by kernel_rfl))
  f284 := Tryd.func48.trans (congrArg some (by kernel_rfl))
  f285 := Tryd.func49.trans (congrArg some (by kernel_rfl))
  f286 := Tryd.func50.trans (congrArg some (by kernel_rfl))
  f317 := Tryd.func61.trans (congrArg some (by kernel_rfl))
  f318 := Tryd.func63.trans (congrArg some (by kernel_rfl))
  f319 := Tryd.func64.trans (congrArg some (by kernel_rfl))
  f320 := Tryd.func65.trans (congrArg some (by kernel_rfl))
  f337 := Tryd.func72.trans (congrArg some (by kernel_rfl))
  f338 := Tryd.func73.trans (congrArg some (by kernel_rfl))
  t0 := Tryd.underlying0
  a0 := Tryd.isAgg0
  z0 := Tryd.sizeOf0
  v0 := Tryd.zeroValue0
  t2 := Tryd.underlying2
  a2 := Tryd.isAgg2
  z2 := Tryd.sizeOf2
  v2 := Tryd.zeroValue2
  t3 := Tryd.underlying3
  a3 := Tryd.isAgg3
  z3 := Tryd.sizeOf3
  v3 := Tryd.zeroValue3
  t4 := Tryd.underlying4
  a4 := Tryd.isAgg4
  z4 := Tryd.sizeOf4
  v4 := Tryd.zeroValue4
  t5 := Tryd.underlying5
  a5 := Tryd.isAgg5
  z5 := Tryd.sizeOf5
  v5 := Tryd.zeroValue5
  t9 := Tryd.underlying9
  a9 := Tryd.isAgg9
  z9 := Tryd.sizeOf9
  v9 := Tryd.zeroValue9
  t20 := Tryd.underlying20
  a20 := Tryd.isAgg20
  z20 := Tryd.sizeOf20
  v20 := Tryd.zeroValue20
  t37 := Tryd.underlying32
  a37 := Tryd.isAgg32
  z37 := Tryd.sizeOf32
  v37 := Tryd.zeroValue32
  t46 := Tryd.underlying85
  a46 := Tryd.isAgg85
  z46 := Tryd.sizeOf85
  v46 := Tryd.zeroValue85
  t51 := Tryd.underlying108
  a51 := Tryd.isAgg108
  z51 := Tryd.sizeOf108
  v51 := Tryd.zeroValue108
  t53 := Tryd.underlying22
  a53 := Tryd.isAgg22
  z53 := Tryd.sizeOf22
  v53 := Tryd.zeroValue22
  t171 := Tryd.underlying86
  a171 := Tryd.isAgg86
  z171 := Tryd.sizeOf86
  v171 := Tryd.zeroValue86
  t173 := Tryd.underlying89
  a173 := Tryd.isAgg89
  z173 := Tryd.sizeOf89
  v173 := Tryd.zeroValue89
  t212 := Tryd.underlying107
  a212 := Tryd.isAgg107
  z212 := Tryd.sizeOf107
  v212 := Tryd.zeroValue107
  t213 := Tryd.underlying109
  a213 := Tryd.isAgg109
  z213 := Tryd.sizeOf109
  t232 := Tryd.underlying117
  a232 := Tryd.isAgg117
  z232 := Tryd.sizeOf117
  v232 := Tryd.zeroValue117
  t233 := Tryd.underlying118
  a233 := Tryd.isAgg118
  z233 := Tryd.sizeOf118
  v233 := Tryd.zeroValue118
  g17 := by kernel_rfl
  g18 := by kernel_rfl
  g19 := by kernel_rfl
  i0 := by kernel_rfl
  i2 := by kernel_rfl
  i3 := by kernel_rfl
  i4 := by kernel_rfl
  i5 := by kernel_rfl
  i9 := by kernel_rfl
  i20 := by kernel_rfl
  i37 := by kernel_rfl
  i46 := by kernel_rfl
  i51 := by kernel_rfl
  i53 := by kernel_rfl
  i171 := by kernel_rfl
  i173 := by kernel_rfl
  i212 := by kernel_rfl
  i232 := by kernel_rfl
  i233 := by kernel_rfl
  m17 := by kernel_rfl
  m18 := by kernel_rfl
  m19 := by kernel_rfl }

namespace Fu
/-- strconv.FormatUint at base 16. -/
theorem fmt16_any (u : Nat) (hu : u < 18446744073709551616) (w : World) (hc : w.cell? ⟨4, 15, none⟩ = some (.int .u8 4)) (hg : 4 < w.heap.size) :
    Calls Tryd.prog 20 #[.int .u64 u, .int .i64 16] w fun e w' => ∃ n, 1 ≤ n ∧ n ≤ 16 ∧ u < 16 ^ n ∧ (1 < n → 16 ^ (n - 1) ≤ u) ∧ e = .returned (.string ⟨(hexN n u).toArray⟩) ∧ Below w.heap.size w w' := by
  have HB := Lib.hid (fbits16 u hu w hc hg)
  have HI : Hid (Calls Tryd.prog 35 #[.int .u64 u, .int .i64 16] w fun e w' => ∃ n, 1 ≤ n ∧ n ≤ 16 ∧ u < 16 ^ n ∧ (1 < n → 16 ^ (n - 1) ≤ u) ∧ e = .returned (.string ⟨(hexN n u).toArray⟩) ∧ Below w.heap.size w w') := Lib.hid (by
    go_enter Tryd.func35, Tryd.ntmps35
    go_wp2_with fail
    refine HB.out.mono ?_
    rintro e w1 ⟨n, h1, h2, h3, h4, rfl, hb⟩
    have H4 := Lib.hid h4
    have H3 := Lib.hid h3
    clear h3 h4
    go_wp2_with fail
    go_ret
    exact ⟨n, h1, h2, H3.out, H4.out, rfl, hb⟩)
  clear HB
  go_enter Tryd.func20, Tryd.ntmps20
  go_wp2_with fail
  refine HI.out.mono ?_
  rintro e w1 ⟨n, h1, h2, h3, h4, rfl, hb⟩
  have H4 := Lib.hid h4
  have H3 := Lib.hid h3
  clear h3 h4
  go_wp2_with fail
  go_ret
  exact ⟨n, h1, h2, H3.out, H4.out, rfl, hb⟩
/-- strconv.Itoa. -/
theorem itoa_any (n : Int) (h0 : -9223372036854775808 ≤ n) (h1 : n ≤ 9223372036854775807) (w : World) (htab : Lib.TabIs Tryd.prog w "internal/strconv.uint64pow10" .u64 Lib.pow10Tab) :
    Calls Tryd.prog 21 #[.int .i64 n] w fun e w' => e = .returned (.string ⟨(Lib.itoa n).toArray⟩) ∧ Below w.heap.size w w' :=
  (Any.strconv_Itoa Tryd.laysIt n h0 h1 w htab).mono fun e w' h => ⟨h.1, by obtain ⟨k, os, rfl⟩ := h.2; exact grow_below _ _ _⟩
end Fu
end Go.Proofs.YtpneejlilgepfaaDoor
namespace Go.Proofs.YtpneejlilgepfaaDoor
open Go.RowKit
set_option linter.unusedVariables false
namespace Fu
/-- A digit's byte. -/
def dgt (x : Nat) : UInt8 := UInt8.ofNat (48 + x)
theorem dec_small (u : Nat) (h : u < 10) : Lib.decDigits u = [dgt u] := by rw [Lib.decDigits, dif_pos h]; rfl
theorem dec_big (u : Nat) (h : ¬ u < 10) : Lib.decDigits u = Lib.decDigits (u / 10) ++ [dgt (u % 10)] := by rw [Lib.decDigits, dif_neg h]; rfl
/-- One digit cut out of the ten. -/
theorem cut10 (y : Int) (h0 : 0 ≤ y) (h1 : y < 10) (W : World) : (Instr.slice 9 (.string ⟨#[48, 49, 50, 51, 52, 53, 54, 55, 56, 57]⟩) (some (.int .u64 y)) (some (.int .u64 (y + 1))) none).run Tryd.prog W = .ok (.string ⟨#[dgt y.toNat]⟩) W := by
  rcases (by omega : y = 0 ∨ y = 1 ∨ y = 2 ∨ y = 3 ∨ y = 4 ∨ y = 5 ∨ y = 6 ∨ y = 7 ∨ y = 8 ∨ y = 9) with rfl | rfl | rfl | rfl | rfl | rfl | rfl | rfl | rfl | rfl
  all_goals kernel_rfl
end Fu
end Go.Proofs.YtpneejlilgepfaaDoor
namespace Go.Proofs.YtpneejlilgepfaaDoor
open Go.RowKit
set_option linter.unusedVariables false
namespace Fu
/-- One hexadecimal digit cut out of the sixteen. -/
theorem cut16 (y : Nat) (h : y < 16) (W : World) : (Instr.slice 9 (.string ⟨#[48, 49, 50, 51, 52, 53, 54, 55, 56, 57, 97, 98, 99, 100, 101, 102]⟩) (some (.int .u64 (y : Int))) (some (.int .u64 ((y : Int) + 1))) none).run Tryd.prog W = .ok (.string ⟨#[UInt8.ofNat (hd y)]⟩) W := by
  rcases (by omega : y = 0 ∨ y = 1 ∨ y = 2 ∨ y = 3 ∨ y = 4 ∨ y = 5 ∨ y = 6 ∨ y = 7 ∨ y = 8 ∨ y = 9 ∨ y = 10 ∨ y = 11 ∨ y = 12 ∨ y = 13 ∨ y = 14 ∨ y = 15) with rfl | rfl | rfl | rfl | rfl | rfl | rfl | rfl | rfl | rfl | rfl | rfl | rfl | rfl | rfl | rfl
  all_goals kernel_rfl
def hdb (x : Nat) : UInt8 := UInt8.ofNat (hd x)
/-- "x" and the first j of the sixteen digits. -/
def top (v j : Nat) : ByteArray := ⟨(120 :: (hexN 16 v).take j).toArray⟩
theorem top_step (v j : Nat) (h : j < 16) : top v j ++ ⟨#[hdb (v / 16 ^ (15 - j) % 16)]⟩ = top v (j + 1) := by
  unfold top
  rw [List.take_succ_eq_append_getElem (by rw [hexN_len]; exact h)]
  have e : (hexN 16 v)[j]'(by rw [hexN_len]; exact h) = hdb (v / 16 ^ (15 - j) % 16) := by simp [hexN, hdb]
  rw [e]
  apply ByteArray.ext
  simp
end Fu
end Go.Proofs.YtpneejlilgepfaaDoor
namespace Go.Proofs.YtpneejlilgepfaaDoor
open Go.RowKit
set_option linter.unusedVariables false
namespace Fu
open _root_.Go.Proofs.YtpneejlilgepfaaDoor.Nm (bitsW rbits_any)
theorem ext16 (y : Nat) (h : y < 16) : (⟨#[48, 49, 50, 51, 52, 53, 54, 55, 56, 57, 97, 98, 99, 100, 101, 102]⟩ : ByteArray).extract y (y + 1) = ⟨#[hdb y]⟩ := by
  rcases (by omega : y = 0 ∨ y = 1 ∨ y = 2 ∨ y = 3 ∨ y = 4 ∨ y = 5 ∨ y = 6 ∨ y = 7 ∨ y = 8 ∨ y = 9 ∨ y = 10 ∨ y = 11 ∨ y = 12 ∨ y = 13 ∨ y = 14 ∨ y = 15) with rfl | rfl | rfl | rfl | rfl | rfl | rfl | rfl | rfl | rfl | rfl | rfl | rfl | rfl | rfl | rfl
  all_goals rfl
theorem top_size (v j : Nat) (h : j ≤ 16) : (top v j).size = j + 1 := by
  show (120 :: (hexN 16 v).take j).toArray.size = j + 1
  simp [hexN_len]; omega
end Fu
end Go.Proofs.YtpneejlilgepfaaDoor
namespace Go.Proofs.YtpneejlilgepfaaDoor
open Go.RowKit
set_option linter.unusedVariables false
namespace Fu
open _root_.Go.Proofs.YtpneejlilgepfaaDoor.Nm (bitsW rbits_any bitsW_lt)
/-- The text of a number with these bits. -/
def textW (v : Nat) : ByteArray :=
  if v = 9221120237041090561 then ⟨#[110, 97, 110]⟩ else
  if v = 9218868437227405312 then ⟨#[105, 110, 102]⟩ else
  if v = 18442240474082181120 then ⟨#[45, 105, 110, 102]⟩ else
  if v = 0 then ⟨#[48]⟩ else
  if v = 9223372036854775808 then ⟨#[45, 48]⟩ else
  top v 16
end Fu
end Go.Proofs.YtpneejlilgepfaaDoor
namespace Go.Proofs.YtpneejlilgepfaaDoor
open Go.RowKit
set_option linter.unusedVariables false
namespace Fu
/-- Two lists whose first parts have no slash. -/
theorem split_eq {a a' b b' : List UInt8} (ha : ∀ x ∈ a, x ≠ 47) (ha' : ∀ x ∈ a', x ≠ 47) (h : a ++ 47 :: b = a' ++ 47 :: b') : a = a' ∧ b = b' := by
  induction a generalizing a' with
  | nil =>
    cases a' with
    | nil => simpa using h
    | cons y a' =>
      exfalso
      have h1 : (47 : UInt8) = y := by simpa using (List.cons.inj (by simpa using h)).1
      exact ha' y (by simp) h1.symm
  | cons x a ih =>
    cases a' with
    | nil =>
      exfalso
      have h1 : x = (47 : UInt8) := by simpa using (List.cons.inj (by simpa using h)).1
      exact ha x (by simp) h1
    | cons y a' =>
      rw [List.cons_append, List.cons_append] at h
      obtain ⟨h1, h2⟩ := List.cons.inj h
      obtain ⟨h3, h4⟩ := ih (fun z hz => ha z (List.mem_cons_of_mem _ hz)) (fun z hz => ha' z (List.mem_cons_of_mem _ hz)) h2
      exact ⟨by rw [h1, h3], h4⟩
theorem dgt_ne (x : Nat) (h : x < 10) : dgt x ≠ 47 := by
  rcases (by omega : x = 0 ∨ x = 1 ∨ x = 2 ∨ x = 3 ∨ x = 4 ∨ x = 5 ∨ x = 6 ∨ x = 7 ∨ x = 8 ∨ x = 9) with rfl | rfl | rfl | rfl | rfl | rfl | rfl | rfl | rfl | rfl <;> decide
theorem dgt_inj (x y : Nat) (hx : x < 10) (hy : y < 10) (h : dgt x = dgt y) : x = y := by
  have h1 := congrArg UInt8.toNat h
  simp only [dgt, UInt8.toNat_ofNat'] at h1
  omega
theorem dec_noslash (n : Nat) : ∀ x ∈ Lib.decDigits n, x ≠ 47 := by
  induction n using Nat.strongRecOn with
  | ind n ih =>
    by_cases h : n < 10
    · rw [dec_small n h]
      intro x hx
      rw [List.mem_singleton.1 hx]
      exact dgt_ne n h
    · rw [dec_big n h]
      intro x hx
      rcases List.mem_append.1 hx with hx | hx
      · exact ih (n / 10) (by omega) x hx
      · rw [List.mem_singleton.1 hx]
        exact dgt_ne _ (Nat.mod_lt _ (by omega))
theorem dec_ne_nil (n : Nat) : Lib.decDigits n ≠ [] := by
  by_cases h : n < 10
  · rw [dec_small n h]; simp
  · rw [dec_big n h]; simp
theorem dec_inj : ∀ (n m : Nat), Lib.decDigits n = Lib.decDigits m → n = m := by
  intro n
  induction n using Nat.strongRecOn with
  | ind n ih =>
    intro m hm
    by_cases h : n < 10
    · by_cases h' : m < 10
      · rw [dec_small n h, dec_small m h'] at hm
        exact dgt_inj n m h h' (List.cons.inj hm).1
      · exfalso
        rw [dec_small n h, dec_big m h'] at hm
        have h1 := congrArg List.length hm
        rw [List.length_append, List.length_singleton, List.length_singleton] at h1
        exact dec_ne_nil (m / 10) (List.eq_nil_of_length_eq_zero (by omega))
    · by_cases h' : m < 10
      · exfalso
        rw [dec_small m h', dec_big n h] at hm
        have h1 := congrArg List.length hm
        rw [List.length_append, List.length_singleton, List.length_singleton] at h1
        exact dec_ne_nil (n / 10) (List.eq_nil_of_length_eq_zero (by omega))
      · rw [dec_big n h, dec_big m h'] at hm
        obtain ⟨h1, h2⟩ := List.append_inj' hm rfl
        have h3 := ih (n / 10) (by omega) (m / 10) h1
        have h4 := dgt_inj _ _ (Nat.mod_lt _ (by omega)) (Nat.mod_lt _ (by omega)) (List.cons.inj h2).1
        omega
theorem hd_inj (x y : Nat) (hx : x < 16) (hy : y < 16) (h : hd x = hd y) : x = y := by
  unfold hd at h
  split at h <;> split at h <;> omega
theorem hd_ne (x : Nat) (h : x < 16) : UInt8.ofNat (hd x) ≠ 47 := by
  intro hh
  have h1 := congrArg UInt8.toNat hh
  rw [UInt8.toNat_ofNat'] at h1
  have h2 := hd_lt x h
  have h3 : hd x ≠ 47 := by unfold hd; split <;> omega
  have h4 : (47 : UInt8).toNat = 47 := rfl
  omega
theorem hexN_digit (v w n : Nat) (h : hexN n v = hexN n w) (i : Nat) (hi : i < n) : v / 16 ^ i % 16 = w / 16 ^ i % 16 := by
  have h1 : (hexN n v)[n - 1 - i]'(by rw [hexN_len]; omega) = (hexN n w)[n - 1 - i]'(by rw [hexN_len]; omega) := by simp [h]
  simp only [hexN, List.getElem_map, List.getElem_range] at h1
  rw [show n - 1 - (n - 1 - i) = i by omega] at h1
  have h2 := congrArg UInt8.toNat h1
  rw [UInt8.toNat_ofNat', UInt8.toNat_ofNat'] at h2
  have h3 := hd_lt (v / 16 ^ i % 16) (Nat.mod_lt _ (by omega))
  have h4 := hd_lt (w / 16 ^ i % 16) (Nat.mod_lt _ (by omega))
  exact hd_inj _ _ (Nat.mod_lt _ (by omega)) (Nat.mod_lt _ (by omega)) (by omega)
theorem of_digits : ∀ (n v w : Nat), v < 16 ^ n → w < 16 ^ n → (∀ i, i < n → v / 16 ^ i % 16 = w / 16 ^ i % 16) → v = w
  | 0, v, w, hv, hw, _ => by simp at hv hw; omega
  | n + 1, v, w, hv, hw, h => by
    have h0 := h 0 (by omega)
    simp only [Nat.pow_zero, Nat.div_one] at h0
    have h1 := of_digits n (v / 16) (w / 16) (by rw [Nat.pow_succ] at hv; omega) (by rw [Nat.pow_succ] at hw; omega) (fun i hi => by
      have := h (i + 1) (by omega)
      rw [Nat.pow_succ, Nat.mul_comm, ← Nat.div_div_eq_div_mul, ← Nat.div_div_eq_div_mul] at this
      exact this)
    omega
theorem hexN_inj (v w : Nat) (hv : v < 18446744073709551616) (hw : w < 18446744073709551616) (h : hexN 16 v = hexN 16 w) : v = w :=
  of_digits 16 v w (by simpa using hv) (by simpa using hw) (hexN_digit v w 16 h)
theorem top_list (v : Nat) : (top v 16).data.toList = 120 :: hexN 16 v := by
  show ((120 :: (hexN 16 v).take 16).toArray).toList = _
  rw [List.take_of_length_le (by rw [hexN_len]; omega)]
theorem textW_noslash (v : Nat) : ∀ x ∈ (textW v).data.toList, x ≠ 47 := by
  have ht : ∀ x ∈ (top v 16).data.toList, x ≠ 47 := by
    rw [top_list]
    intro x hx
    rcases List.mem_cons.1 hx with rfl | hx
    · decide
    · simp only [hexN, List.mem_map, List.mem_range] at hx
      obtain ⟨i, -, rfl⟩ := hx
      exact hd_ne _ (Nat.mod_lt _ (by omega))
  unfold textW
  split
  · decide
  · split
    · decide
    · split
      · decide
      · split
        · decide
        · split
          · decide
          · exact ht
/-- The text of one of the five special numbers, or none. -/
theorem textW_sp (v : Nat) : (v = 9221120237041090561 ∧ textW v = ⟨#[110, 97, 110]⟩) ∨ (v = 9218868437227405312 ∧ textW v = ⟨#[105, 110, 102]⟩) ∨ (v = 18442240474082181120 ∧ textW v = ⟨#[45, 105, 110, 102]⟩) ∨ (v = 0 ∧ textW v = ⟨#[48]⟩) ∨ (v = 9223372036854775808 ∧ textW v = ⟨#[45, 48]⟩) ∨ textW v = top v 16 := by
  unfold textW
  by_cases h1 : v = 9221120237041090561
  · exact .inl ⟨h1, by rw [if_pos h1]⟩
  · by_cases h2 : v = 9218868437227405312
    · exact .inr (.inl ⟨h2, by rw [if_neg h1, if_pos h2]⟩)
    · by_cases h3 : v = 18442240474082181120
      · exact .inr (.inr (.inl ⟨h3, by rw [if_neg h1, if_neg h2, if_pos h3]⟩))
      · by_cases h4 : v = 0
        · exact .inr (.inr (.inr (.inl ⟨h4, by rw [if_neg h1, if_neg h2, if_neg h3, if_pos h4]⟩)))
        · by_cases h5 : v = 9223372036854775808
          · exact .inr (.inr (.inr (.inr (.inl ⟨h5, by rw [if_neg h1, if_neg h2, if_neg h3, if_neg h4, if_pos h5]⟩))))
          · exact .inr (.inr (.inr (.inr (.inr (by rw [if_neg h1, if_neg h2, if_neg h3, if_neg h4, if_neg h5])))))
theorem sp_top {v : Nat} {s : ByteArray} (h : s = top v 16) (hs : s.size < 17) : False := by
  rw [h, top_size v 16 (by omega)] at hs
  omega
theorem textW_inj (v w : Nat) (hv : v < 18446744073709551616) (hw : w < 18446744073709551616) (h : textW v = textW w) : v = w := by
  rcases textW_sp v with ⟨e1, t1⟩ | ⟨e1, t1⟩ | ⟨e1, t1⟩ | ⟨e1, t1⟩ | ⟨e1, t1⟩ | t1 <;>
  rcases textW_sp w with ⟨e2, t2⟩ | ⟨e2, t2⟩ | ⟨e2, t2⟩ | ⟨e2, t2⟩ | ⟨e2, t2⟩ | t2 <;>
  rw [t1, t2] at h <;>
  first
    | exact e1.trans e2.symm
    | (exfalso; revert h; decide)
    | exact absurd (sp_top h (by decide)) not_false
    | exact absurd (sp_top h.symm (by decide)) not_false
    | exact hexN_inj v w hv hw (by
        have h2 := congrArg (fun b : ByteArray => b.data.toList) h
        simp only [top_list] at h2
        exact (List.cons.inj h2).2)
theorem bytes_ext {a b : ByteArray} (h : a.data.toList = b.data.toList) : a = b := by
  apply ByteArray.ext
  exact Array.toList_inj.1 h
end Fu
end Go.Proofs.YtpneejlilgepfaaDoor
