/- strings.Repeat: the shelf's contract laid at this program. -/
/- num.Text of any number. -/
import Derived.Shelf.Strings.Repeat
import Derived.Test.YtjfhnkhabipbdaaGreatDoorMjap
import Derived.Laws.BitsAllLaws
namespace Go.Proofs.YtjfhnkhabipbdaaGreatDoor
open Go.RowKit Go.Shelf

def Tryz.laysRepeat_ren : Go.Shelf.Ren := ⟨fun | 105 => 120 | 212 => 122 | 99 => 123 | 165 => 63 | 166 => 64 | 170 => 124 | 169 => 65 | 263 => 125 | 264 => 126 | 206 => 127 | 240 => 81 | 241 => 82 | 276 => 92 | 277 => 93 | n => n, fun | 9 => 9 | 3 => 3 | 4 => 4 | 20 => 20 | 0 => 0 | 46 => 105 | 109 => 143 | 5 => 5 | 72 => 89 | 76 => 93 | 51 => 103 | 146 => 146 | 53 => 25 | 148 => 148 | 70 => 87 | 37 => 79 | 75 => 92 | 127 => 116 | 164 => 121 | 80 => 95 | n => n, fun | n => n⟩
theorem Tryz.laysRepeat : Go.Proofs.Lays.n105 Tryz.prog Tryz.laysRepeat_ren := {
  mixed := by kernel_rfl
  f99 := Tryz.func123.trans (congrArg some (by kernel_rfl))
  f105 := Tryz.func120.trans (congrArg some (by kernel_rfl))
  f165 := Tryz.func63.trans (congrArg some (by kernel_rfl))
  f166 := Tryz.func64.trans (congrArg some (by kernel_rfl))
  f169 := Tryz.func65.trans (congrArg some (by kernel_rfl))
  f170 := Tryz.func124.trans (congrArg some (by kernel_rfl))
  f206 := Tryz.func127.trans (congrArg some (by kernel_rfl))
  f212 := Tryz.func122.trans (congrArg some (by kernel_rfl))
  f240 := Tryz.func81.trans (congrArg some (by kernel_rfl))
  f241 := Tryz.func82.trans (congrArg some (by kernel_rfl))
  f263 := Tryz.func125.trans (congrArg some (by kernel_rfl))
  f264 := Tryz.func126.trans (congrArg some (by kernel_rfl))
  f276 := Tryz.func92.trans (congrArg some (by kernel_rfl))
  f277 := Tryz.func93.trans (congrArg some (by kernel_rfl))
  t0 := Tryz.underlying0
  a0 := Tryz.isAgg0
  z0 := Tryz.sizeOf0
  v0 := Tryz.zeroValue0
  t3 := Tryz.underlying3
  a3 := Tryz.isAgg3
  z3 := Tryz.sizeOf3
  v3 := Tryz.zeroValue3
  t4 := Tryz.underlying4
  a4 := Tryz.isAgg4
  z4 := Tryz.sizeOf4
  v4 := Tryz.zeroValue4
  t5 := Tryz.underlying5
  a5 := Tryz.isAgg5
  z5 := Tryz.sizeOf5
  v5 := Tryz.zeroValue5
  t9 := Tryz.underlying9
  a9 := Tryz.isAgg9
  z9 := Tryz.sizeOf9
  v9 := Tryz.zeroValue9
  t20 := Tryz.underlying20
  a20 := Tryz.isAgg20
  z20 := Tryz.sizeOf20
  v20 := Tryz.zeroValue20
  t37 := Tryz.underlying79
  a37 := Tryz.isAgg79
  z37 := Tryz.sizeOf79
  v37 := Tryz.zeroValue79
  t46 := Tryz.underlying105
  a46 := Tryz.isAgg105
  z46 := Tryz.sizeOf105
  v46 := Tryz.zeroValue105
  t51 := Tryz.underlying103
  a51 := Tryz.isAgg103
  z51 := Tryz.sizeOf103
  v51 := Tryz.zeroValue103
  t53 := Tryz.underlying25
  a53 := Tryz.isAgg25
  z53 := Tryz.sizeOf25
  v53 := Tryz.zeroValue25
  t70 := Tryz.underlying87
  a70 := Tryz.isAgg87
  z70 := Tryz.sizeOf87
  v70 := Tryz.zeroValue87
  t72 := Tryz.underlying89
  a72 := Tryz.isAgg89
  z72 := Tryz.sizeOf89
  v72 := Tryz.zeroValue89
  t75 := Tryz.underlying92
  a75 := Tryz.isAgg92
  z75 := Tryz.sizeOf92
  v75 := Tryz.zeroValue92
  t76 := Tryz.underlying93
  a76 := Tryz.isAgg93
  z76 := Tryz.sizeOf93
  v76 := Tryz.zeroValue93
  t109 := Tryz.underlying143
  a109 := Tryz.isAgg143
  z109 := Tryz.sizeOf143
  v109 := Tryz.zeroValue143
  t127 := Tryz.underlying116
  a127 := Tryz.isAgg116
  z127 := Tryz.sizeOf116
  v127 := Tryz.zeroValue116
  t146 := Tryz.underlying146
  a146 := Tryz.isAgg146
  z146 := Tryz.sizeOf146
  v146 := Tryz.zeroValue146
  t148 := Tryz.underlying148
  a148 := Tryz.isAgg148
  z148 := Tryz.sizeOf148
  v148 := Tryz.zeroValue148
  t164 := Tryz.underlying121
  a164 := Tryz.isAgg121
  z164 := Tryz.sizeOf121
  v164 := Tryz.zeroValue121 }

theorem Tryz.extraRepeat : Builder.Extra Tryz.prog Tryz.laysRepeat_ren := {
  sizeBuilder := by kernel_rfl
  liesBuilder := by kernel_rfl
  t5 := Tryz.laysRepeat.t5
  a5 := Tryz.laysRepeat.a5
  z5 := Tryz.laysRepeat.z5
  v5 := Tryz.laysRepeat.v5
  infoByte := by kernel_rfl
  cellsByte := by kernel_rfl
  sizeByte := by kernel_rfl
  neB5 := by decide }

namespace Fu
theorem repeat_any (s : ByteArray) (c : Nat) (w : World) (hc : c ≤ 9223372036854775807) (hlen : s.size * c ≤ 140737488355328) :
    Calls Tryz.prog 120 #[.string s, .int .i64 c] w fun e w' => e = .returned (.string ⟨(Lib.repeatL s.data.toList c).toArray⟩) ∧ Below w.heap.size w w' :=
  Any.strings_Repeat Tryz.laysRepeat Tryz.extraRepeat s c w hc hlen
end Fu
end Go.Proofs.YtjfhnkhabipbdaaGreatDoor
namespace Go.Proofs.YtjfhnkhabipbdaaGreatDoor
open Go.RowKit
set_option linter.unusedVariables false
namespace Fu
open _root_.Go.Proofs.YtjfhnkhabipbdaaGreatDoor.Nm (bitsW run_f64bits run_frombits ret_bool V_pos sv_zero ord_small neq_self signbit_any bits_any quietW)
/-- A number is plus or minus 0. -/
theorem ord_eq0 (b : Nat) : (FloatKind.f64.format.order b 0 == some Ordering.eq) = decide (b % 9223372036854775808 = 0) := by
  show (Ieee.double.order b 0 == some Ordering.eq) = _
  cases hn : Fm.isNan b with
  | true =>
    rw [Fm.order_nan_l b 0 hn]
    simp only [Fm.isNan, decide_eq_true_eq] at hn
    have : ¬ (b % 9223372036854775808 = 0) := by omega
    simp [this]
  | false =>
    rw [Fm.order_eq b 0 hn (by decide), sv_zero]
    have h1 := Fm.SV_abs b
    by_cases h : b % 9223372036854775808 = 0
    · have h2 : b % 2 ^ 63 = 0 := h
      rw [h2, Fm.V_zero] at h1
      have h3 : Fm.SV b = 0 := by omega
      rw [h3]
      simp [h]
    · have h2 : 0 < Fm.V (b % 2 ^ 63) := V_pos h
      have h3 : Fm.SV b ≠ 0 := by omega
      have h4 : compare (Fm.SV b) 0 ≠ Ordering.eq := by
        intro hh
        exact h3 (Int.compare_eq_eq.1 hh)
      simp [h, h4]
theorem ord_gt (q c : Nat) (hq : q ≤ 2047 * 2 ^ 52) (hc : c ≤ 2047 * 2 ^ 52) : (FloatKind.f64.format.order q c == some Ordering.gt) = decide (c < q) := by
  rw [ord_small q c hq hc]
  by_cases h : c < q
  · have h2 : Fm.V c < Fm.V q := Fm.V_strict h
    have h3 : compare (Fm.V q : Int) (Fm.V c : Int) = Ordering.gt := Int.compare_eq_gt.2 (by omega)
    rw [h3]; simp [h]
  · have h2 : Fm.V q ≤ Fm.V c := by
      rcases (by omega : q < c ∨ q = c) with hh | hh
      · exact Nat.le_of_lt (Fm.V_strict hh)
      · rw [hh]; exact Nat.le_refl _
    have h3 : compare (Fm.V q : Int) (Fm.V c : Int) ≠ Ordering.gt := by
      intro hh
      have := Int.compare_eq_gt.1 hh
      omega
    simp [h, h3]
/-- A number without its sign is infinite. -/
theorem ord_inf (q : Nat) : (FloatKind.f64.format.order q 9218868437227405311 == some Ordering.gt) = decide (q = 9218868437227405312) ∨ 9223372036854775808 ≤ q := by
  obtain ⟨c, hc⟩ : ∃ c : Nat, c = 9218868437227405311 := ⟨_, rfl⟩
  rw [← hc]
  by_cases h0 : 9223372036854775808 ≤ q
  · exact .inr h0
  refine .inl ?_
  by_cases h1 : 2047 * 2 ^ 52 < q
  · have hn : Fm.isNan q = true := by simp only [Fm.isNan, decide_eq_true_eq]; omega
    have e := Fm.order_nan_l q c hn
    have e2 : (FloatKind.f64.format.order q c) = none := e
    rw [e2]
    have h2 : ¬ (q = 9218868437227405312) := by omega
    rw [decide_eq_false h2]
    rfl
  · rw [ord_gt q c (by omega) (by omega), decide_eq_decide]
    omega
theorem clr63 (b : Nat) (hb : b < 18446744073709551616) : bits BinOp.andNot IntKind.u64 (b : Int) 9223372036854775808 = ((b % 9223372036854775808 : Nat) : Int) := by
  have h := u64_andNot_nat b 9223372036854775808 hb (by omega)
  have e : b &&& (18446744073709551615 - 9223372036854775808) = b % 9223372036854775808 := Nat.and_two_pow_sub_one_eq_mod b 63
  rw [e] at h
  exact h
theorem isinf_any (b : Nat) (hb : b < 18446744073709551616) (w : World) : Calls Tryz.prog 119 #[.float .f64 b, .int .i64 0] w fun e w' => e = .returned (.bool (decide (b % 9223372036854775808 = 9218868437227405312))) ∧ w = w' := by
  have ha : Hid (∀ w, Calls Tryz.prog 121 #[.float .f64 b] w fun e w' => e = .returned (.float .f64 (b % 9223372036854775808)) ∧ w = w') := Lib.hid (by
    intro w
    have h1 := fun w => run_f64bits b w
    have h2 := fun b w => run_frombits b w
    have h3 := clr63 b hb
    go_enter Tryz.func121, Tryz.ntmps121
    go_wp2
    go_ret
    exact ⟨rfl, rfl⟩)
  have ho := (ord_inf (b % 9223372036854775808)).resolve_right (by omega)
  generalize b % 9223372036854775808 = q at *
  clear hb
  go_enter Tryz.func119, Tryz.ntmps119
  go_wp2_with fail
  refine (ha.out _).mono ?_
  rintro e w1 ⟨rfl, rfl⟩
  go_wp2_with fail
  go_ret
  exact ⟨rfl, rfl⟩
theorem rep48 (c : Nat) : Lib.repeatL [48] c = List.replicate c 48 := by
  have h := Lib.repeatL_replicate 48 1 c
  rw [Nat.mul_one] at h
  exact h
theorem hexN_pad (n v : Nat) (hn : n ≤ 16) (hv : v < 16 ^ n) : hexN 16 v = List.replicate (16 - n) 48 ++ hexN n v := by
  apply List.ext_getElem
  · simp [hexN_len]; omega
  · intro i h1 h2
    rw [hexN_len] at h1
    by_cases h : i < 16 - n
    · rw [List.getElem_append_left (by simpa using h), List.getElem_replicate]
      have e : v / 16 ^ (16 - 1 - i) = 0 := Nat.div_eq_of_lt (Nat.lt_of_lt_of_le hv (Nat.pow_le_pow_right (by omega) (by omega)))
      simp [hexN, e, hd]
    · rw [List.getElem_append_right (by simpa using (by omega : 16 - n ≤ i))]
      simp only [hexN, List.getElem_map, List.getElem_range, List.length_replicate]
      rw [show n - 1 - (i - (16 - n)) = 16 - 1 - i by omega]
theorem top_of (n v : Nat) (hn : n ≤ 16) (hv : v < 16 ^ n) : (⟨#[120]⟩ : ByteArray) ++ ⟨(Lib.repeatL [48] (16 - n)).toArray⟩ ++ ⟨(hexN n v).toArray⟩ = top v 16 := by
  unfold top
  rw [rep48, List.take_of_length_le (by rw [hexN_len]; omega), hexN_pad n v hn hv]
  apply ByteArray.ext
  simp
/-- num.Text of any number. -/
theorem ntext_any (b : Nat) (hb : b < 18446744073709551616) (w : World) (hc : w.cell? ⟨3, 15, none⟩ = some (.int .u8 4)) (hg : 3 < w.heap.size) :
    Calls Tryz.prog 118 #[.float .f64 b] w fun e w' => e = .returned (.string (textW (bitsW b))) ∧ Below w.heap.size w w' := by
  have hs := fun w => signbit_any b hb w
  have hi := fun w => isinf_any b hb w
  have hz := ord_eq0 b
  have hn := neq_self b
  have hx : Hid (∀ w, Calls Tryz.prog 61 #[.float .f64 b] w fun e w' => e = .returned (.int .u64 (bitsW b)) ∧ w = w') := Lib.hid (bits_any b)
  have hbn : Hid (Fm.neg b = (b / 9223372036854775808 % 2 == 1)) := Lib.hid rfl
  have hbb : Hid (b < 18446744073709551616) := Lib.hid hb
  have hvl : Hid (bitsW b < 18446744073709551616) := Lib.hid (Nm.bitsW_lt b hb)
  by_cases h1 : Fm.isNan b = true
  · have hv : bitsW b = 9221120237041090561 := by unfold bitsW; rw [if_pos h1]; rfl
    have ht : textW (bitsW b) = ⟨#[110, 97, 110]⟩ := by rw [hv]; rfl
    rw [ht]
    rw [h1] at hn
    clear hs hi hz h1 hv ht hb hx
    go_enter Tryz.func118, Tryz.ntmps118
    go_wp2_with fail
    go_ret
    exact ⟨rfl, Below.refl _ _⟩
  · have h1 : Fm.isNan b = false := by simpa using h1
    have hv : bitsW b = b := by unfold bitsW; rw [h1]; rfl
    rw [h1] at hn
    rw [hv] at hx hvl ⊢
    have h1' : Hid (¬ (9218868437227405312 < b % 9223372036854775808)) := Lib.hid (by simp only [Fm.isNan, decide_eq_false_iff_not] at h1; omega)
    clear h1 hv
    have HBN := hbn
    by_cases h2 : b % 9223372036854775808 = 0
    · rw [decide_eq_true h2] at hz
      cases h3 : Fm.neg b
      · have ht : textW b = ⟨#[48]⟩ := by
          have : b = 0 := by
            have := hbn.out; rw [h3] at this
            have := (beq_eq_false_iff_ne.1 this.symm); omega
          rw [this]; rfl
        rw [ht]
        rw [h3] at hs
        clear hi hx h3 hb HBN hbn ht h2
        go_enter Tryz.func118, Tryz.ntmps118
        go_wp2_with (go_at_call 87; refine (hs _).mono ?_; rintro e w' ⟨rfl, rfl⟩)
        go_ret
        exact ⟨rfl, Below.refl _ _⟩
      · have ht : textW b = ⟨#[45, 48]⟩ := by
          have : b = 9223372036854775808 := by
            have := hbn.out; rw [h3] at this
            have := beq_iff_eq.1 this.symm; omega
          rw [this]; rfl
        rw [ht]
        rw [h3] at hs
        clear hi hx h3 hb HBN hbn ht h2
        go_enter Tryz.func118, Tryz.ntmps118
        go_wp2_with (go_at_call 87; refine (hs _).mono ?_; rintro e w' ⟨rfl, rfl⟩)
        go_ret
        exact ⟨rfl, Below.refl _ _⟩
    · rw [decide_eq_false h2] at hz
      by_cases h4 : b % 9223372036854775808 = 9218868437227405312
      · rw [decide_eq_true h4] at hi
        cases h3 : Fm.neg b
        · have ht : textW b = ⟨#[105, 110, 102]⟩ := by
            have : b = 9218868437227405312 := by
              have := hbn.out; rw [h3] at this
              have := (beq_eq_false_iff_ne.1 this.symm); omega
            rw [this]; rfl
          rw [ht]
          rw [h3] at hs
          clear hx h3 hb HBN hbn ht h2 h4
          go_enter Tryz.func118, Tryz.ntmps118
          go_wp2_with (first | (go_at_call 87; refine (hs _).mono ?_; rintro e w' ⟨rfl, rfl⟩) | (go_at_call 119; refine (hi _).mono ?_; rintro e w' ⟨rfl, rfl⟩))
          go_ret
          exact ⟨rfl, Below.refl _ _⟩
        · have ht : textW b = ⟨#[45, 105, 110, 102]⟩ := by
            have : b = 18442240474082181120 := by
              have := hbn.out; rw [h3] at this
              have := beq_iff_eq.1 this.symm; omega
            rw [this]; rfl
          rw [ht]
          rw [h3] at hs
          clear hx h3 hb HBN hbn ht h2 h4
          go_enter Tryz.func118, Tryz.ntmps118
          go_wp2_with (first | (go_at_call 87; refine (hs _).mono ?_; rintro e w' ⟨rfl, rfl⟩) | (go_at_call 119; refine (hi _).mono ?_; rintro e w' ⟨rfl, rfl⟩))
          go_ret
          exact ⟨rfl, Below.refl _ _⟩
      · rw [decide_eq_false h4] at hi
        have ht : textW b = top b 16 := by
          have h5 := h1'.out
          unfold textW
          rw [if_neg (by omega), if_neg (by omega), if_neg (by omega), if_neg (by omega), if_neg (by omega)]
        rw [ht]
        have HF := Lib.hid (fmt16_any b hb w hc hg)
        have HT := Lib.hid (fun n hn hv => (top_of n b hn hv).symm)
        have HR := Lib.hid (fun (c : Nat) (hc : c ≤ 16) (w : World) => repeat_any ⟨#[48]⟩ c w (by omega) (by show 1 * c ≤ _; omega))
        generalize Fm.neg b = s at hs
        clear hb HBN hbn ht h2 h4 hc hg
        go_enter Tryz.func118, Tryz.ntmps118
        cases s
        all_goals
          go_wp2_with (first | (go_at_call 87; refine (hs _).mono ?_; rintro e w' ⟨rfl, rfl⟩) | (go_at_call 119; refine (hi _).mono ?_; rintro e w' ⟨rfl, rfl⟩) | (go_at_call 61; refine (hx.out _).mono ?_; rintro e w' ⟨rfl, rfl⟩))
          refine HF.out.mono ?_
          rintro e w1 ⟨n, hn1, hn2, hn3, hn4, rfl, hB⟩
          obtain ⟨xs, hxs⟩ : ∃ xs : ByteArray, xs = ⟨(hexN n b).toArray⟩ := ⟨_, rfl⟩
          obtain ⟨r, hr⟩ : ∃ r : ByteArray, r = ⟨(Lib.repeatL [48] (16 - n)).toArray⟩ := ⟨_, rfl⟩
          have hsz : xs.size = n := by rw [hxs]; show (hexN n b).toArray.size = n; simp [hexN_len]
          have hrz : r.size = 16 - n := by rw [hr, rep48]; show (List.replicate (16 - n) (48 : UInt8)).toArray.size = _; simp
          have HTT : Hid (top b 16 = ⟨#[120]⟩ ++ r ++ xs) := Lib.hid (by rw [hr, hxs]; exact HT.out n hn2 hn3)
          have HRR : Hid (∀ w, Calls Tryz.prog 120 #[.string ⟨#[48]⟩, .int .i64 (16 - (xs.size : Int))] w fun e w' => e = .returned (.string r) ∧ Below w.heap.size w w') := Lib.hid (fun w => by
            have h := HR.out (16 - n) (by omega) w
            rw [← hr, show ((16 - n : Nat) : Int) = 16 - (xs.size : Int) by omega] at h
            exact h)
          rw [← hxs]
          have hq1 : ¬ (9223372036854775807 < 1 + r.size) := by omega
          have hq2 : ¬ (9223372036854775807 < 1 + r.size + xs.size) := by omega
          have HB1 := Lib.hid hB
          clear hn1 hn2 hn3 hn4 hxs hr hB HR HT HF hsz hrz hs hi hz hn
          go_wp2_with fail
          refine (HRR.out _).mono ?_
          rintro e w2 ⟨rfl, hB2⟩
          have HB2 := Lib.hid (HB1.out.trans (hB2.mono HB1.out.size))
          clear hB2
          go_wp2_with fail
          go_ret
          exact ⟨by rw [HTT.out]; rfl, HB2.out⟩
end Fu
end Go.Proofs.YtjfhnkhabipbdaaGreatDoor
