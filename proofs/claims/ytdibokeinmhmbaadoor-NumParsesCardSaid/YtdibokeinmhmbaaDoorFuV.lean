/- num.Parse of any short string. -/
import Derived.Test.YtdibokeinmhmbaaDoorFuU
import Derived.Test.YtdibokeinmhmbaaDoorFuP
namespace Go.Proofs.YtdibokeinmhmbaaDoor
open Go.RowKit
set_option linter.unusedVariables false
namespace Fu
open _root_.Go.Proofs.YtdibokeinmhmbaaDoor.Nm (bitsW bitsW_lt run_frombits)
theorem hexN_low (n u : Nat) : ∀ c ∈ hexN n u, lowhex c := by
  intro c hc
  simp only [hexN, List.mem_map, List.mem_range] at hc
  obtain ⟨i, -, rfl⟩ := hc
  have h1 : u / 16 ^ (n - 1 - i) % 16 < 16 := Nat.mod_lt _ (by omega)
  generalize u / 16 ^ (n - 1 - i) % 16 = y at *
  unfold lowhex
  rcases (by omega : y = 0 ∨ y = 1 ∨ y = 2 ∨ y = 3 ∨ y = 4 ∨ y = 5 ∨ y = 6 ∨ y = 7 ∨ y = 8 ∨ y = 9 ∨ y = 10 ∨ y = 11 ∨ y = 12 ∨ y = 13 ∨ y = 14 ∨ y = 15) with rfl | rfl | rfl | rfl | rfl | rfl | rfl | rfl | rfl | rfl | rfl | rfl | rfl | rfl | rfl | rfl <;> decide
theorem hv_hd (y : Nat) (h : y < 16) : hv (UInt8.ofNat (hd y)) = y := by
  rcases (by omega : y = 0 ∨ y = 1 ∨ y = 2 ∨ y = 3 ∨ y = 4 ∨ y = 5 ∨ y = 6 ∨ y = 7 ∨ y = 8 ∨ y = 9 ∨ y = 10 ∨ y = 11 ∨ y = 12 ∨ y = 13 ∨ y = 14 ∨ y = 15) with rfl | rfl | rfl | rfl | rfl | rfl | rfl | rfl | rfl | rfl | rfl | rfl | rfl | rfl | rfl | rfl <;> decide
theorem hexval_hexN (n u : Nat) : ∀ k, k ≤ n → hexval ((hexN n u).take k) = u / 16 ^ (n - k) % 16 ^ k
  | 0, _ => by simp [hexval, Nat.mod_one]
  | k + 1, hk => by
    have ih := hexval_hexN n u k (by omega)
    rw [hexval_succ _ k (by rw [hexN_len]; omega), ih]
    have e : (hexN n u)[k]'(by rw [hexN_len]; omega) = UInt8.ofNat (hd (u / 16 ^ (n - 1 - k) % 16)) := by simp [hexN]
    rw [e, hv_hd _ (Nat.mod_lt _ (by omega))]
    have e1 : n - k = (n - (k + 1)) + 1 := by omega
    have e2 : n - 1 - k = n - (k + 1) := by omega
    rw [e1, e2, Nat.pow_succ, ← Nat.div_div_eq_div_mul]
    generalize u / 16 ^ (n - (k + 1)) = v
    rw [Nat.pow_succ, Nat.mul_comm (16 ^ k) 16, Nat.mod_mul]
    omega
theorem hexval_16 (u : Nat) (h : u < 18446744073709551616) : hexval (hexN 16 u) = u := by
  have h1 := hexval_hexN 16 u 16 (Nat.le_refl _)
  rw [List.take_of_length_le (by rw [hexN_len]; omega)] at h1
  rw [h1, Nat.sub_self, Nat.pow_zero, Nat.div_one]
  exact Nat.mod_eq_of_lt h
theorem good_hexN (u : Nat) : goodH (hexN 16 u) := ⟨by rw [hexN_len]; omega, by rw [hexN_len]; omega, hexN_low 16 u⟩
theorem findS_text (s : ByteArray) (v : Nat) (h : findS s = some v) : textW v = s ∧ bitsW v = v ∧ v < 18446744073709551616 := by
  unfold findS at h
  split at h
  · rename_i hs; cases h; subst hs; exact ⟨rfl, by decide +kernel, by omega⟩
  · split at h
    · rename_i hs; cases h; subst hs; exact ⟨rfl, by decide +kernel, by omega⟩
    · split at h
      · rename_i hs; cases h; subst hs; exact ⟨rfl, by decide +kernel, by omega⟩
      · split at h
        · rename_i hs; cases h; subst hs; exact ⟨rfl, by decide +kernel, by omega⟩
        · split at h
          · rename_i hs; cases h; subst hs; exact ⟨rfl, by decide +kernel, by omega⟩
          · cases h
theorem findS_none (s : ByteArray) (v : Nat) (h : findS s = none) (ht : textW v = s) : s = top v 16 := by
  rcases textW_sp v with ⟨-, t⟩ | ⟨-, t⟩ | ⟨-, t⟩ | ⟨-, t⟩ | ⟨-, t⟩ | t
  all_goals rw [← ht, t]
  all_goals
    exfalso
    rw [← ht, t] at h
    revert h
    decide
/-- What Parse gives: a number whose text it is, or none. -/
def PRes (s : ByteArray) (f : Nat) (ok : Bool) : Prop := f < 18446744073709551616 ∧ (ok = true → textW (bitsW f) = s) ∧ (ok = false → f = 0 ∧ ∀ v, v < 18446744073709551616 → textW (bitsW v) ≠ s)
theorem PRes.unique {s : ByteArray} {f g : Nat} {a b : Bool} (h1 : PRes s f a) (h2 : PRes s g b) : bitsW f = bitsW g ∧ a = b := by
  obtain ⟨h1a, h1b, h1c⟩ := h1
  obtain ⟨h2a, h2b, h2c⟩ := h2
  cases a <;> cases b
  · rw [(h1c rfl).1, (h2c rfl).1]; exact ⟨rfl, rfl⟩
  · exact absurd (h2b rfl) ((h1c rfl).2 g h2a)
  · exact absurd (h1b rfl) ((h2c rfl).2 f h1a)
  · exact ⟨textW_inj _ _ (bitsW_lt f h1a) (bitsW_lt g h2a) ((h1b rfl).trans (h2b rfl).symm), rfl⟩
theorem bitsW_idem (v : Nat) : bitsW (bitsW v) = bitsW v := by
  unfold Nm.bitsW
  split
  · decide +kernel
  · rfl
/-- A text in digits: the cut and the number. -/
theorem top_cut (v : Nat) (s : ByteArray) (h : s = top v 16) : Lib.hasPrefix s.data.toList [120] = true ∧ Lib.trimPrefix s.data.toList [120] = hexN 16 v := by
  have h1 : s.data.toList = 120 :: hexN 16 v := by rw [h, top_list]
  have h2 : Lib.hasPrefix s.data.toList [120] = true := by rw [h1]; simp [Lib.hasPrefix]
  refine ⟨h2, ?_⟩
  unfold Lib.trimPrefix
  rw [if_pos h2, h1]
  rfl
set_option maxHeartbeats 1000000 in
set_option maxRecDepth 100000 in
theorem parse_any (s : ByteArray) (hs : s.size ≤ 200) (w : World) (ht : Tabs w) (he : Errs w) :
    Calls Tryd.prog 21 #[.string s] w fun e w' => (∃ f ok, e = .returned (.tuple #[.float .f64 f, .bool ok]) ∧ PRes s f ok) ∧ Below w.heap.size w w' := by
  have HSP := Lib.hid (special_any w)
  have HCU := Lib.hid (cut_any s)
  obtain ⟨d, hd⟩ : ∃ d : ByteArray, d = ⟨(Lib.trimPrefix s.data.toList [120]).toArray⟩ := ⟨_, rfl⟩
  have hdl : d.data.toList = Lib.trimPrefix s.data.toList [120] := by rw [hd]
  have hdz : d.size ≤ 1000 := by
    rw [← len_size, hdl]
    unfold Lib.trimPrefix
    have := len_size s
    split
    · rw [List.length_drop]; omega
    · omega
  have HSU : Hid (∀ W, Below w.heap.size w W → Calls Tryd.prog 42 #[.string d, .int .i64 16, .int .i64 64] W fun e w' => SuOut d.data.toList W e w') := Lib.hid fun W hW => su16_any d hdz W (he.later hW)
  have HTX : Hid (∀ (W : World) (b : Nat), b < 18446744073709551616 → Below w.heap.size w W → Calls Tryd.prog 20 #[.float .f64 b] W fun e w' => e = .returned (.string (textW (bitsW b))) ∧ Below W.heap.size W w') := Lib.hid fun W b hb hW => ntext_any b hb W (ht.later hW).2.1 (ht.later hW).2.2
  have HL : Hid (∀ (W : World) (b : Nat), W.ownsMap Tryd.prog 9 fElem b 5 (.map specials) → (Instr.lookup 62 (.map (some b)) (.string s) true).run Tryd.prog W = .ok (.tuple #[.float .f64 ((findS s).getD 0), .bool (findS s).isSome]) W) := Lib.hid fun W b ho => look_any W b ho s (by unfold maxLen; omega)
  have HF : Hid (∀ v, findS s = some v → textW v = s ∧ bitsW v = v ∧ v < 18446744073709551616) := Lib.hid (findS_text s)
  have HNN : Hid (findS s = none → ∀ v, v < 18446744073709551616 → textW (bitsW v) = s → Lib.hasPrefix s.data.toList [120] = true ∧ goodH d.data.toList ∧ hexval d.data.toList = bitsW v) := Lib.hid fun h v hv htx => by
    obtain ⟨h1, h2⟩ := top_cut (bitsW v) s (findS_none s (bitsW v) h htx)
    rw [hdl, h2]
    exact ⟨h1, good_hexN _, hexval_16 _ (bitsW_lt v hv)⟩
  rw [← hd] at HCU
  generalize Lib.hasPrefix s.data.toList [120] = hp at *
  generalize hfs : findS s = r at *
  clear hfs hd hdl hdz ht he hs
  have hr := fun b w => run_frombits b w
  go_enter Tryd.func21, Tryd.ntmps21
  go_wp2_with fail
  refine HSP.out.mono ?_
  rintro e w1 ⟨b, rfl, own, hb1⟩
  have hlook := HL.out w1 b own
  have HB1 := Lib.hid hb1
  clear HSP own hb1 HL
  cases r with
  | some v =>
    have HV := Lib.hid (HF.out v rfl)
    clear HF HNN
    go_wp2_with fail
    go_ret2
    refine ⟨⟨_, _, rfl, ?_⟩, HB1.out⟩
    obtain ⟨k1, k2, k3⟩ := HV.out
    exact ⟨k3, fun _ => by show textW (bitsW v) = s; rw [k2, k1], fun h => by cases h⟩
  | none =>
    have HN2 := Lib.hid (HNN.out rfl)
    clear HF HNN
    go_wp2_with fail
    refine (HCU.out _).mono ?_
    rintro e w2 ⟨rfl, rfl⟩
    clear hlook
    go_wp2_with fail
    refine (HSU.out _ HB1.out).mono ?_
    rintro e w3 ⟨bi, x, rfl, b0, b1, hx, hg, hb3⟩
    have HG := Lib.hid hg
    have HB3 := Lib.hid (HB1.out.trans (hb3.mono HB1.out.size))
    clear hg hb3 HSU HCU
    obtain ⟨bn, rfl⟩ : ∃ bn : Nat, bi = bn := ⟨bi.toNat, by omega⟩
    have hbn : bn < 18446744073709551616 := by omega
    cases hp with
    | false =>
      go_wp2_with fail
      go_ret2
      refine ⟨⟨_, _, rfl, ?_⟩, HB3.out⟩
      exact ⟨by omega, fun h => (by cases h), fun _ => ⟨rfl, fun v hv htx => by cases (HN2.out v hv htx).1⟩⟩
    | true =>
      rcases hx with rfl | ⟨tt, p, rfl⟩
      · go_wp2_with fail
        refine (HTX.out _ bn hbn HB3.out).mono ?_
        rintro e w4 ⟨rfl, hb4⟩
        have HB4 := Lib.hid (HB3.out.trans (hb4.mono HB3.out.size))
        clear hb4
        obtain ⟨tx, htx⟩ : ∃ tx, tx = textW (bitsW bn) := ⟨_, rfl⟩
        rw [← htx]
        have HQ := Lib.hid htx
        clear htx
        by_cases hts : tx = s
        · have hq : (tx.toList == s.toList) = true := by rw [hts]; exact beq_self_eq_true _
          have HTS := Lib.hid hts
          clear hts
          go_wp2_with fail
          go_ret2
          refine ⟨⟨bn, true, rfl, ?_⟩, HB4.out⟩
          exact ⟨hbn, fun _ => HQ.out.symm.trans HTS.out, fun h => by cases h⟩
        · have hq : (tx.toList == s.toList) = false := by
            rw [beq_eq_false_iff_ne]
            intro h
            exact hts ((toList_inj _ _).1 h)
          have HTS := Lib.hid hts
          clear hts
          go_wp2_with fail
          go_ret2
          refine ⟨⟨_, _, rfl, ?_⟩, HB4.out⟩
          refine ⟨by omega, fun h => (by cases h), fun _ => ⟨rfl, fun v hv htx => ?_⟩⟩
          obtain ⟨-, k2, k3⟩ := HN2.out v hv htx
          have k4 := (HG.out k2).2
          have k5 : bn = bitsW v := by omega
          exact HTS.out (HQ.out.trans (by rw [k5, bitsW_idem, htx]))
      · have HNG : Hid (¬ goodH d.data.toList) := Lib.hid (fun g => by cases (HG.out g).1)
        go_wp2_with fail
        go_ret2
        refine ⟨⟨_, _, rfl, ?_⟩, HB3.out⟩
        exact ⟨by omega, fun h => (by cases h), fun _ => ⟨rfl, fun v hv htx => absurd (HN2.out v hv htx).2.1 HNG.out⟩⟩
end Fu
end Go.Proofs.YtdibokeinmhmbaaDoor
