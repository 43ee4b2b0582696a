/- The reference's Parse of any short string. -/
import Derived.Test.YtdibokeinmhmbaaDoorFuV
namespace Go.Proofs.YtdibokeinmhmbaaDoor
open Go.RowKit
set_option linter.unusedVariables false
namespace Fu
open _root_.Go.Proofs.YtdibokeinmhmbaaDoor.Nm (bitsW bitsW_lt run_frombits)
/-- The six candidates. -/
def cand (b : Nat) (j : Nat) : Nat := if j = 0 then b else if j = 1 then 9221120237041090561 else if j = 2 then 9218868437227405312 else if j = 3 then 18442240474082181120 else if j = 4 then 0 else 9223372036854775808
theorem cand_lt (b j : Nat) (h : b < 18446744073709551616) : cand b j < 18446744073709551616 := by
  unfold cand
  repeat' split
  all_goals omega
theorem cand_none (s : ByteArray) (b : Nat) (hg : ∀ v, v < 18446744073709551616 → s = top v 16 → b = v) (h : ∀ i, i < 6 → textW (bitsW (cand b i)) ≠ s) (v : Nat) (hv : v < 18446744073709551616) : textW (bitsW v) ≠ s := by
  intro ht
  have hl := bitsW_lt v hv
  rcases textW_sp (bitsW v) with ⟨e, t⟩ | ⟨e, t⟩ | ⟨e, t⟩ | ⟨e, t⟩ | ⟨e, t⟩ | t
  · exact h 1 (by omega) (by rw [← ht, e]; show textW (bitsW 9221120237041090561) = textW 9221120237041090561; decide +kernel)
  · exact h 2 (by omega) (by rw [← ht, e]; show textW (bitsW 9218868437227405312) = textW 9218868437227405312; decide +kernel)
  · exact h 3 (by omega) (by rw [← ht, e]; show textW (bitsW 18442240474082181120) = textW 18442240474082181120; decide +kernel)
  · exact h 4 (by omega) (by rw [← ht, e]; show textW (bitsW 0) = textW 0; decide +kernel)
  · exact h 5 (by omega) (by rw [← ht, e]; show textW (bitsW 9223372036854775808) = textW 9223372036854775808; decide +kernel)
  · have e := hg (bitsW v) hl (by rw [← ht, t])
    refine h 0 (by omega) ?_
    show textW (bitsW b) = s
    rw [e, bitsW_idem, ht]
set_option maxHeartbeats 4000000 in
set_option maxRecDepth 100000 in
theorem rparse_any (s : ByteArray) (hs : s.size ≤ 200) (w : World) :
    Calls Tryd.prog 24 #[.string s] w fun e w' => (∃ f ok, e = .returned (.tuple #[.float .f64 f, .bool ok]) ∧ PRes s f ok) ∧ Below w.heap.size w w' := by
  obtain ⟨bs, hL⟩ : ∃ bs, bs = s.data.toList := ⟨_, rfl⟩
  have hLn : bs.length = s.size := by rw [hL]; exact len_size s
  have HTop : Hid (∀ v, v < 18446744073709551616 → s = top v 16 → goodH (bs.drop 1) ∧ hexval (bs.drop 1) = v) := Lib.hid fun v hv h => by
    have h1 : bs = 120 :: hexN 16 v := by rw [hL, h, top_list]
    rw [h1]
    exact ⟨good_hexN v, hexval_16 v hv⟩
  have HTX : Hid (∀ (W : World) (b : Nat), b < 18446744073709551616 → Calls Tryd.prog 23 #[.float .f64 b] W fun e w' => e = .returned (.string (textW (bitsW b))) ∧ w' = W) := Lib.hid fun W b hb => rtext_any b hb W
  have hr := fun b w => run_frombits b w
  have hix : ∀ (i : Nat) (hi : i < s.size) (W : World), (Instr.index 9 (.string s) (.int .i64 (i : Int))).run Tryd.prog W = .ok (.int .u8 ((bs[i]'(by omega)).toNat : Int)) W := by
    intro i hi W
    rw [run_index_string W 9 s .i64 (i : Int) Tryd.underlying9, dif_pos ⟨by omega, by omega⟩]
    have e : s[((i : Int)).toNat]'(by omega) = bs[i]'(by omega) := by
      subst hL
      rfl
    rw [e]
  clear hL
  go_enter Tryd.func24, Tryd.ntmps24
  go_wp2_with fail
  go_loop [4, 5] (fun vb vi => ∃ (k : Nat) (β : Int), vb = .int .u64 β ∧ vi = .int .i64 ((k : Int) + 1) ∧ (k + 1 ≤ s.size ∨ k = 0) ∧ 0 ≤ β ∧ β < 18446744073709551616 ∧ Hid (goodH (bs.drop 1) → β = hexval ((bs.drop 1).take k)))
    (fun _ vi => s.size + 1 - (intOf vi).toNat)
  case atStart => exact ⟨0, 0, rfl, rfl, .inr rfl, by omega, by omega, Lib.hid (fun _ => rfl)⟩
  case round =>
    obtain ⟨k, β, rfl, rfl, hk, b0, b1, HH⟩ := hrel
    by_cases hlt : k + 1 < s.size
    · have hxc := hix (k + 1) hlt
      have hlt' : (k : Int) + 1 < s.size := by omega
      have hdl : k < (bs.drop 1).length := by rw [List.length_drop]; omega
      have hget : (bs.drop 1)[k]'hdl = bs[k + 1]'(by omega) := by rw [List.getElem_drop]; congr 1; omega
      have HLow : Hid (goodH (bs.drop 1) → lowhex (bs[k + 1]'(by omega))) := Lib.hid (fun g => by rw [← hget]; exact g.2.2 _ (List.getElem_mem _))
      have HSt : Hid (hexval ((bs.drop 1).take (k + 1)) = hexval ((bs.drop 1).take k) * 16 + hv (bs[k + 1]'(by omega))) := Lib.hid (by rw [← hget]; exact hexval_succ (bs.drop 1) k hdl)
      have HLt : Hid (goodH (bs.drop 1) → hexval ((bs.drop 1).take k) < 1152921504606846976) := Lib.hid (fun g => by
        have h1 := hexval_lt _ g.2.2 k (by omega)
        have h2 := g.2.1
        have h3 : 16 ^ k ≤ 16 ^ 15 := Nat.pow_le_pow_right (by omega) (by omega)
        omega)
      rw [show (((k + 1 : Nat)) : Int) = (k : Int) + 1 from rfl] at hxc
      generalize bs[k + 1]'(by omega) = c at hxc HLow HSt
      have hc256 : c.toNat < 256 := c.toNat_lt
      obtain ⟨ci, hci⟩ : ∃ ci : Int, ci = (c.toNat : Int) := ⟨_, rfl⟩
      rw [← hci] at hxc
      have HCI := Lib.hid hci
      have c0 : 0 ≤ ci := by omega
      have c1 : ci < 256 := by omega
      obtain ⟨p, hp⟩ : ∃ p : Int, IntKind.u64.wrap (β * 16) = p := ⟨_, rfl⟩
      have hpm : p = β * 16 % 18446744073709551616 := by rw [← hp, IntKind.wrap_u64]
      have HPM := Lib.hid hpm
      clear hget hc256 hci hix hdl hpm
      rcases (by omega : ci < 48 ∨ (48 ≤ ci ∧ ci ≤ 57) ∨ (57 < ci ∧ ci < 97) ∨ (97 ≤ ci ∧ ci ≤ 102) ∨ 102 < ci) with hx | ⟨hx, hy⟩ | ⟨hx, hy⟩ | ⟨hx, hy⟩ | hx
      · have HN : Hid (¬ goodH (bs.drop 1)) := Lib.hid (fun g => by have h1 := HLow.out g; unfold lowhex at h1; have h2 := HCI.out; omega)
        go_wp2_with fail
        refine ⟨⟨k + 1, β, rfl, (by first | rfl | (congr 1; omega)), .inl (by omega), b0, b1, Lib.hid (fun g => absurd g HN.out)⟩, by simp [intOf]; omega⟩
      · obtain ⟨q, hq⟩ : ∃ q : Int, IntKind.u64.wrap (p + (ci - 48)) = q := ⟨_, rfl⟩
        have hqm : q = (p + (ci - 48)) % 18446744073709551616 := by rw [← hq, IntKind.wrap_u64]
        have HQ : Hid (0 ≤ q ∧ q < 18446744073709551616 ∧ (goodH (bs.drop 1) → q = hexval ((bs.drop 1).take (k + 1)))) := Lib.hid ⟨by omega, by omega, fun g => by
          rw [HSt.out]
          have h1 := HH.out g
          have h2 := HCI.out
          have h3 := HLt.out g
          have h4 := HPM.out
          unfold hv
          rw [if_pos (by omega)]
          omega⟩
        clear hqm
        go_wp2_with fail
        refine ⟨⟨k + 1, q, rfl, (by first | rfl | (congr 1; omega)), .inl (by omega), HQ.out.1, HQ.out.2.1, Lib.hid HQ.out.2.2⟩, by simp [intOf]; omega⟩
      · have HN : Hid (¬ goodH (bs.drop 1)) := Lib.hid (fun g => by have h1 := HLow.out g; unfold lowhex at h1; have h2 := HCI.out; omega)
        go_wp2_with fail
        refine ⟨⟨k + 1, β, rfl, (by first | rfl | (congr 1; omega)), .inl (by omega), b0, b1, Lib.hid (fun g => absurd g HN.out)⟩, by simp [intOf]; omega⟩
      · obtain ⟨q1, hq1⟩ : ∃ q : Int, IntKind.u64.wrap (p + (ci - 97)) = q := ⟨_, rfl⟩
        have hq1m : q1 = (p + (ci - 97)) % 18446744073709551616 := by rw [← hq1, IntKind.wrap_u64]
        obtain ⟨q, hq⟩ : ∃ q : Int, IntKind.u64.wrap (q1 + 10) = q := ⟨_, rfl⟩
        have hqm : q = (q1 + 10) % 18446744073709551616 := by rw [← hq, IntKind.wrap_u64]
        have HQ : Hid (0 ≤ q ∧ q < 18446744073709551616 ∧ (goodH (bs.drop 1) → q = hexval ((bs.drop 1).take (k + 1)))) := Lib.hid ⟨by omega, by omega, fun g => by
          rw [HSt.out]
          have h1 := HH.out g
          have h2 := HCI.out
          have h3 := HLt.out g
          have h4 := HPM.out
          unfold hv
          rw [if_neg (by omega)]
          omega⟩
        clear hqm hq1m
        go_wp2_with fail
        refine ⟨⟨k + 1, q, rfl, (by first | rfl | (congr 1; omega)), .inl (by omega), HQ.out.1, HQ.out.2.1, Lib.hid HQ.out.2.2⟩, by simp [intOf]; omega⟩
      · have HN : Hid (¬ goodH (bs.drop 1)) := Lib.hid (fun g => by have h1 := HLow.out g; unfold lowhex at h1; have h2 := HCI.out; omega)
        go_wp2_with fail
        refine ⟨⟨k + 1, β, rfl, (by first | rfl | (congr 1; omega)), .inl (by omega), b0, b1, Lib.hid (fun g => absurd g HN.out)⟩, by simp [intOf]; omega⟩
    · have hge : ¬ ((k : Int) + 1 < s.size) := by omega
      obtain ⟨bn, rfl⟩ : ∃ bn : Nat, β = bn := ⟨β.toNat, by omega⟩
      have hbn : bn < 18446744073709551616 := by omega
      have HG : Hid (∀ v, v < 18446744073709551616 → s = top v 16 → bn = v) := Lib.hid fun v hv h => by
        obtain ⟨g, e⟩ := HTop.out v hv h
        have h1 := HH.out g
        rw [List.take_of_length_le (by rw [List.length_drop]; omega), e] at h1
        omega
      have HNO := Lib.hid (cand_none s bn HG.out)
      clear HTop HH HG hix hlt
      go_wp2_with fail
      go_loop [8] (fun vj => ∃ j : Nat, vj = .int .i64 (j : Int) ∧ j ≤ 6 ∧ Hid (∀ i, i < j → textW (bitsW (cand bn i)) ≠ s)) (fun vj => 7 - (intOf vj).toNat)
      case atStart => exact ⟨0, rfl, by omega, Lib.hid (fun i hi => by omega)⟩
      case round =>
        obtain ⟨j, rfl, hj, HJ⟩ := hrel
        rcases (by omega : j = 0 ∨ j = 1 ∨ j = 2 ∨ j = 3 ∨ j = 4 ∨ j = 5 ∨ j = 6) with rfl | rfl | rfl | rfl | rfl | rfl | rfl
        · have HT := Lib.hid (fun W => HTX.out W bn (by omega))
          obtain ⟨tx, htx⟩ : ∃ tx, tx = textW (bitsW bn) := ⟨_, rfl⟩
          rw [← htx] at HT
          have HQ : Hid (tx = textW (bitsW (cand bn 0))) := Lib.hid htx
          clear htx
          by_cases hts : tx = s
          · have hq : (tx.toList == s.toList) = true := by rw [hts]; exact beq_self_eq_true _
            have HP : Hid (PRes s (cand bn 0) true) := Lib.hid ⟨cand_lt bn 0 hbn, fun _ => HQ.out.symm.trans hts, fun h => by cases h⟩
            clear hts
            go_wp2_with fail
            refine (HT.out _).mono ?_
            rintro e w' ⟨rfl, rfl⟩
            go_wp2_with fail
            go_ret2
            exact ⟨⟨_, true, rfl, HP.out⟩, (Below.refl _ _).alloc (Nat.le_refl _) _⟩
          · have hq : (tx.toList == s.toList) = false := by
              rw [beq_eq_false_iff_ne]
              intro h
              exact hts ((toList_inj _ _).1 h)
            have HJ2 : Hid (∀ i, i < 0 + 1 → textW (bitsW (cand bn i)) ≠ s) := Lib.hid (fun i hi => by
              by_cases h : i < 0
              · exact HJ.out i h
              · have : i = 0 := by omega
                subst this
                exact fun h => hts (HQ.out.trans h))
            clear hts
            go_wp2_with fail
            refine (HT.out _).mono ?_
            rintro e w' ⟨rfl, rfl⟩
            go_wp2_with fail
            refine ⟨⟨0 + 1, rfl, by omega, HJ2⟩, by simp [intOf]⟩
        · have HT := Lib.hid (fun W => HTX.out W 9221120237041090561 (by omega))
          obtain ⟨tx, htx⟩ : ∃ tx, tx = textW (bitsW 9221120237041090561) := ⟨_, rfl⟩
          rw [← htx] at HT
          have HQ : Hid (tx = textW (bitsW (cand bn 1))) := Lib.hid htx
          clear htx
          by_cases hts : tx = s
          · have hq : (tx.toList == s.toList) = true := by rw [hts]; exact beq_self_eq_true _
            have HP : Hid (PRes s (cand bn 1) true) := Lib.hid ⟨cand_lt bn 1 hbn, fun _ => HQ.out.symm.trans hts, fun h => by cases h⟩
            clear hts
            go_wp2_with fail
            refine (HT.out _).mono ?_
            rintro e w' ⟨rfl, rfl⟩
            go_wp2_with fail
            go_ret2
            exact ⟨⟨_, true, rfl, HP.out⟩, (Below.refl _ _).alloc (Nat.le_refl _) _⟩
          · have hq : (tx.toList == s.toList) = false := by
              rw [beq_eq_false_iff_ne]
              intro h
              exact hts ((toList_inj _ _).1 h)
            have HJ2 : Hid (∀ i, i < 1 + 1 → textW (bitsW (cand bn i)) ≠ s) := Lib.hid (fun i hi => by
              by_cases h : i < 1
              · exact HJ.out i h
              · have : i = 1 := by omega
                subst this
                exact fun h => hts (HQ.out.trans h))
            clear hts
            go_wp2_with fail
            refine (HT.out _).mono ?_
            rintro e w' ⟨rfl, rfl⟩
            go_wp2_with fail
            refine ⟨⟨1 + 1, rfl, by omega, HJ2⟩, by simp [intOf]⟩
        · have HT := Lib.hid (fun W => HTX.out W 9218868437227405312 (by omega))
          obtain ⟨tx, htx⟩ : ∃ tx, tx = textW (bitsW 9218868437227405312) := ⟨_, rfl⟩
          rw [← htx] at HT
          have HQ : Hid (tx = textW (bitsW (cand bn 2))) := Lib.hid htx
          clear htx
          by_cases hts : tx = s
          · have hq : (tx.toList == s.toList) = true := by rw [hts]; exact beq_self_eq_true _
            have HP : Hid (PRes s (cand bn 2) true) := Lib.hid ⟨cand_lt bn 2 hbn, fun _ => HQ.out.symm.trans hts, fun h => by cases h⟩
            clear hts
            go_wp2_with fail
            refine (HT.out _).mono ?_
            rintro e w' ⟨rfl, rfl⟩
            go_wp2_with fail
            go_ret2
            exact ⟨⟨_, true, rfl, HP.out⟩, (Below.refl _ _).alloc (Nat.le_refl _) _⟩
          · have hq : (tx.toList == s.toList) = false := by
              rw [beq_eq_false_iff_ne]
              intro h
              exact hts ((toList_inj _ _).1 h)
            have HJ2 : Hid (∀ i, i < 2 + 1 → textW (bitsW (cand bn i)) ≠ s) := Lib.hid (fun i hi => by
              by_cases h : i < 2
              · exact HJ.out i h
              · have : i = 2 := by omega
                subst this
                exact fun h => hts (HQ.out.trans h))
            clear hts
            go_wp2_with fail
            refine (HT.out _).mono ?_
            rintro e w' ⟨rfl, rfl⟩
            go_wp2_with fail
            refine ⟨⟨2 + 1, rfl, by omega, HJ2⟩, by simp [intOf]⟩
        · have HT := Lib.hid (fun W => HTX.out W 18442240474082181120 (by omega))
          obtain ⟨tx, htx⟩ : ∃ tx, tx = textW (bitsW 18442240474082181120) := ⟨_, rfl⟩
          rw [← htx] at HT
          have HQ : Hid (tx = textW (bitsW (cand bn 3))) := Lib.hid htx
          clear htx
          by_cases hts : tx = s
          · have hq : (tx.toList == s.toList) = true := by rw [hts]; exact beq_self_eq_true _
            have HP : Hid (PRes s (cand bn 3) true) := Lib.hid ⟨cand_lt bn 3 hbn, fun _ => HQ.out.symm.trans hts, fun h => by cases h⟩
            clear hts
            go_wp2_with fail
            refine (HT.out _).mono ?_
            rintro e w' ⟨rfl, rfl⟩
            go_wp2_with fail
            go_ret2
            exact ⟨⟨_, true, rfl, HP.out⟩, (Below.refl _ _).alloc (Nat.le_refl _) _⟩
          · have hq : (tx.toList == s.toList) = false := by
              rw [beq_eq_false_iff_ne]
              intro h
              exact hts ((toList_inj _ _).1 h)
            have HJ2 : Hid (∀ i, i < 3 + 1 → textW (bitsW (cand bn i)) ≠ s) := Lib.hid (fun i hi => by
              by_cases h : i < 3
              · exact HJ.out i h
              · have : i = 3 := by omega
                subst this
                exact fun h => hts (HQ.out.trans h))
            clear hts
            go_wp2_with fail
            refine (HT.out _).mono ?_
            rintro e w' ⟨rfl, rfl⟩
            go_wp2_with fail
            refine ⟨⟨3 + 1, rfl, by omega, HJ2⟩, by simp [intOf]⟩
        · have HT := Lib.hid (fun W => HTX.out W 0 (by omega))
          obtain ⟨tx, htx⟩ : ∃ tx, tx = textW (bitsW 0) := ⟨_, rfl⟩
          rw [← htx] at HT
          have HQ : Hid (tx = textW (bitsW (cand bn 4))) := Lib.hid htx
          clear htx
          by_cases hts : tx = s
          · have hq : (tx.toList == s.toList) = true := by rw [hts]; exact beq_self_eq_true _
            have HP : Hid (PRes s (cand bn 4) true) := Lib.hid ⟨cand_lt bn 4 hbn, fun _ => HQ.out.symm.trans hts, fun h => by cases h⟩
            clear hts
            go_wp2_with fail
            refine (HT.out _).mono ?_
            rintro e w' ⟨rfl, rfl⟩
            go_wp2_with fail
            go_ret2
            exact ⟨⟨_, true, rfl, HP.out⟩, (Below.refl _ _).alloc (Nat.le_refl _) _⟩
          · have hq : (tx.toList == s.toList) = false := by
              rw [beq_eq_false_iff_ne]
              intro h
              exact hts ((toList_inj _ _).1 h)
            have HJ2 : Hid (∀ i, i < 4 + 1 → textW (bitsW (cand bn i)) ≠ s) := Lib.hid (fun i hi => by
              by_cases h : i < 4
              · exact HJ.out i h
              · have : i = 4 := by omega
                subst this
                exact fun h => hts (HQ.out.trans h))
            clear hts
            go_wp2_with fail
            refine (HT.out _).mono ?_
            rintro e w' ⟨rfl, rfl⟩
            go_wp2_with fail
            refine ⟨⟨4 + 1, rfl, by omega, HJ2⟩, by simp [intOf]⟩
        · have HT := Lib.hid (fun W => HTX.out W 9223372036854775808 (by omega))
          obtain ⟨tx, htx⟩ : ∃ tx, tx = textW (bitsW 9223372036854775808) := ⟨_, rfl⟩
          rw [← htx] at HT
          have HQ : Hid (tx = textW (bitsW (cand bn 5))) := Lib.hid htx
          clear htx
          by_cases hts : tx = s
          · have hq : (tx.toList == s.toList) = true := by rw [hts]; exact beq_self_eq_true _
            have HP : Hid (PRes s (cand bn 5) true) := Lib.hid ⟨cand_lt bn 5 hbn, fun _ => HQ.out.symm.trans hts, fun h => by cases h⟩
            clear hts
            go_wp2_with fail
            refine (HT.out _).mono ?_
            rintro e w' ⟨rfl, rfl⟩
            go_wp2_with fail
            go_ret2
            exact ⟨⟨_, true, rfl, HP.out⟩, (Below.refl _ _).alloc (Nat.le_refl _) _⟩
          · have hq : (tx.toList == s.toList) = false := by
              rw [beq_eq_false_iff_ne]
              intro h
              exact hts ((toList_inj _ _).1 h)
            have HJ2 : Hid (∀ i, i < 5 + 1 → textW (bitsW (cand bn i)) ≠ s) := Lib.hid (fun i hi => by
              by_cases h : i < 5
              · exact HJ.out i h
              · have : i = 5 := by omega
                subst this
                exact fun h => hts (HQ.out.trans h))
            clear hts
            go_wp2_with fail
            refine (HT.out _).mono ?_
            rintro e w' ⟨rfl, rfl⟩
            go_wp2_with fail
            refine ⟨⟨5 + 1, rfl, by omega, HJ2⟩, by simp [intOf]⟩
        · have HNv := Lib.hid (HNO.out (fun i hi => HJ.out i hi))
          go_wp2_with fail
          go_ret2
          have hp : PRes s 0 false := ⟨by omega, fun h => (by cases h), fun _ => ⟨rfl, HNv.out⟩⟩
          first
            | exact ⟨⟨0, false, rfl, hp⟩, (Below.refl _ _).alloc (Nat.le_refl _) _⟩
            | exact ⟨⟨0, .inl ⟨rfl, hp⟩⟩, (Below.refl _ _).alloc (Nat.le_refl _) _⟩
end Fu
end Go.Proofs.YtdibokeinmhmbaaDoor
