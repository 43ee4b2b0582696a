/- Texts of policies are equal exactly if all numbers are: plain lemmas. -/
import Derived.Test.YtdibokeinmhmbaaDoorFuM
import Derived.Lib.Join
namespace Go.Proofs.YtdibokeinmhmbaaDoor
open Go.RowKit
set_option linter.unusedVariables false
namespace Fu
/-- Two lists whose first parts have no slash. -/
theorem split_eq {a a' b b' : List UInt8} (ha : ∀ x ∈ a, x ≠ 47) (ha' : ∀ x ∈ a', x ≠ 47) (h : a ++ 47 :: b = a' ++ 47 :: b') : a = a' ∧ b = b' := by
  induction a generalizing a' with
  | nil =>
    cases a' with
    | nil => simpa using h
    | cons y a' =>
      exfalso
      have h1 : (47 : UInt8) = y := by simpa using (List.cons.inj (by simpa using h)).1
      exact ha' y (by simp) h1.symm
  | cons x a ih =>
    cases a' with
    | nil =>
      exfalso
      have h1 : x = (47 : UInt8) := by simpa using (List.cons.inj (by simpa using h)).1
      exact ha x (by simp) h1
    | cons y a' =>
      rw [List.cons_append, List.cons_append] at h
      obtain ⟨h1, h2⟩ := List.cons.inj h
      obtain ⟨h3, h4⟩ := ih (fun z hz => ha z (List.mem_cons_of_mem _ hz)) (fun z hz => ha' z (List.mem_cons_of_mem _ hz)) h2
      exact ⟨by rw [h1, h3], h4⟩
theorem dgt_ne (x : Nat) (h : x < 10) : dgt x ≠ 47 := by
  rcases (by omega : x = 0 ∨ x = 1 ∨ x = 2 ∨ x = 3 ∨ x = 4 ∨ x = 5 ∨ x = 6 ∨ x = 7 ∨ x = 8 ∨ x = 9) with rfl | rfl | rfl | rfl | rfl | rfl | rfl | rfl | rfl | rfl <;> decide
theorem dgt_inj (x y : Nat) (hx : x < 10) (hy : y < 10) (h : dgt x = dgt y) : x = y := by
  have h1 := congrArg UInt8.toNat h
  simp only [dgt, UInt8.toNat_ofNat'] at h1
  omega
theorem dec_noslash (n : Nat) : ∀ x ∈ Lib.decDigits n, x ≠ 47 := by
  induction n using Nat.strongRecOn with
  | ind n ih =>
    by_cases h : n < 10
    · rw [dec_small n h]
      intro x hx
      rw [List.mem_singleton.1 hx]
      exact dgt_ne n h
    · rw [dec_big n h]
      intro x hx
      rcases List.mem_append.1 hx with hx | hx
      · exact ih (n / 10) (by omega) x hx
      · rw [List.mem_singleton.1 hx]
        exact dgt_ne _ (Nat.mod_lt _ (by omega))
theorem dec_ne_nil (n : Nat) : Lib.decDigits n ≠ [] := by
  by_cases h : n < 10
  · rw [dec_small n h]; simp
  · rw [dec_big n h]; simp
theorem dec_inj : ∀ (n m : Nat), Lib.decDigits n = Lib.decDigits m → n = m := by
  intro n
  induction n using Nat.strongRecOn with
  | ind n ih =>
    intro m hm
    by_cases h : n < 10
    · by_cases h' : m < 10
      · rw [dec_small n h, dec_small m h'] at hm
        exact dgt_inj n m h h' (List.cons.inj hm).1
      · exfalso
        rw [dec_small n h, dec_big m h'] at hm
        have h1 := congrArg List.length hm
        rw [List.length_append, List.length_singleton, List.length_singleton] at h1
        exact dec_ne_nil (m / 10) (List.eq_nil_of_length_eq_zero (by omega))
    · by_cases h' : m < 10
      · exfalso
        rw [dec_small m h', dec_big n h] at hm
        have h1 := congrArg List.length hm
        rw [List.length_append, List.length_singleton, List.length_singleton] at h1
        exact dec_ne_nil (n / 10) (List.eq_nil_of_length_eq_zero (by omega))
      · rw [dec_big n h, dec_big m h'] at hm
        obtain ⟨h1, h2⟩ := List.append_inj' hm rfl
        have h3 := ih (n / 10) (by omega) (m / 10) h1
        have h4 := dgt_inj _ _ (Nat.mod_lt _ (by omega)) (Nat.mod_lt _ (by omega)) (List.cons.inj h2).1
        omega
theorem hd_inj (x y : Nat) (hx : x < 16) (hy : y < 16) (h : hd x = hd y) : x = y := by
  unfold hd at h
  split at h <;> split at h <;> omega
theorem hd_ne (x : Nat) (h : x < 16) : UInt8.ofNat (hd x) ≠ 47 := by
  intro hh
  have h1 := congrArg UInt8.toNat hh
  rw [UInt8.toNat_ofNat'] at h1
  have h2 := hd_lt x h
  have h3 : hd x ≠ 47 := by unfold hd; split <;> omega
  have h4 : (47 : UInt8).toNat = 47 := rfl
  omega
theorem hexN_digit (v w n : Nat) (h : hexN n v = hexN n w) (i : Nat) (hi : i < n) : v / 16 ^ i % 16 = w / 16 ^ i % 16 := by
  have h1 : (hexN n v)[n - 1 - i]'(by rw [hexN_len]; omega) = (hexN n w)[n - 1 - i]'(by rw [hexN_len]; omega) := by simp [h]
  simp only [hexN, List.getElem_map, List.getElem_range] at h1
  rw [show n - 1 - (n - 1 - i) = i by omega] at h1
  have h2 := congrArg UInt8.toNat h1
  rw [UInt8.toNat_ofNat', UInt8.toNat_ofNat'] at h2
  have h3 := hd_lt (v / 16 ^ i % 16) (Nat.mod_lt _ (by omega))
  have h4 := hd_lt (w / 16 ^ i % 16) (Nat.mod_lt _ (by omega))
  exact hd_inj _ _ (Nat.mod_lt _ (by omega)) (Nat.mod_lt _ (by omega)) (by omega)
theorem of_digits : ∀ (n v w : Nat), v < 16 ^ n → w < 16 ^ n → (∀ i, i < n → v / 16 ^ i % 16 = w / 16 ^ i % 16) → v = w
  | 0, v, w, hv, hw, _ => by simp at hv hw; omega
  | n + 1, v, w, hv, hw, h => by
    have h0 := h 0 (by omega)
    simp only [Nat.pow_zero, Nat.div_one] at h0
    have h1 := of_digits n (v / 16) (w / 16) (by rw [Nat.pow_succ] at hv; omega) (by rw [Nat.pow_succ] at hw; omega) (fun i hi => by
      have := h (i + 1) (by omega)
      rw [Nat.pow_succ, Nat.mul_comm, ← Nat.div_div_eq_div_mul, ← Nat.div_div_eq_div_mul] at this
      exact this)
    omega
theorem hexN_inj (v w : Nat) (hv : v < 18446744073709551616) (hw : w < 18446744073709551616) (h : hexN 16 v = hexN 16 w) : v = w :=
  of_digits 16 v w (by simpa using hv) (by simpa using hw) (hexN_digit v w 16 h)
theorem top_list (v : Nat) : (top v 16).data.toList = 120 :: hexN 16 v := by
  show ((120 :: (hexN 16 v).take 16).toArray).toList = _
  rw [List.take_of_length_le (by rw [hexN_len]; omega)]
theorem textW_noslash (v : Nat) : ∀ x ∈ (textW v).data.toList, x ≠ 47 := by
  have ht : ∀ x ∈ (top v 16).data.toList, x ≠ 47 := by
    rw [top_list]
    intro x hx
    rcases List.mem_cons.1 hx with rfl | hx
    · decide
    · simp only [hexN, List.mem_map, List.mem_range] at hx
      obtain ⟨i, -, rfl⟩ := hx
      exact hd_ne _ (Nat.mod_lt _ (by omega))
  unfold textW
  split
  · decide
  · split
    · decide
    · split
      · decide
      · split
        · decide
        · split
          · decide
          · exact ht
/-- The text of one of the five special numbers, or none. -/
theorem textW_sp (v : Nat) : (v = 9221120237041090561 ∧ textW v = ⟨#[110, 97, 110]⟩) ∨ (v = 9218868437227405312 ∧ textW v = ⟨#[105, 110, 102]⟩) ∨ (v = 18442240474082181120 ∧ textW v = ⟨#[45, 105, 110, 102]⟩) ∨ (v = 0 ∧ textW v = ⟨#[48]⟩) ∨ (v = 9223372036854775808 ∧ textW v = ⟨#[45, 48]⟩) ∨ textW v = top v 16 := by
  unfold textW
  by_cases h1 : v = 9221120237041090561
  · exact .inl ⟨h1, by rw [if_pos h1]⟩
  · by_cases h2 : v = 9218868437227405312
    · exact .inr (.inl ⟨h2, by rw [if_neg h1, if_pos h2]⟩)
    · by_cases h3 : v = 18442240474082181120
      · exact .inr (.inr (.inl ⟨h3, by rw [if_neg h1, if_neg h2, if_pos h3]⟩))
      · by_cases h4 : v = 0
        · exact .inr (.inr (.inr (.inl ⟨h4, by rw [if_neg h1, if_neg h2, if_neg h3, if_pos h4]⟩)))
        · by_cases h5 : v = 9223372036854775808
          · exact .inr (.inr (.inr (.inr (.inl ⟨h5, by rw [if_neg h1, if_neg h2, if_neg h3, if_neg h4, if_pos h5]⟩))))
          · exact .inr (.inr (.inr (.inr (.inr (by rw [if_neg h1, if_neg h2, if_neg h3, if_neg h4, if_neg h5])))))
theorem sp_top {v : Nat} {s : ByteArray} (h : s = top v 16) (hs : s.size < 17) : False := by
  rw [h, top_size v 16 (by omega)] at hs
  omega
theorem textW_inj (v w : Nat) (hv : v < 18446744073709551616) (hw : w < 18446744073709551616) (h : textW v = textW w) : v = w := by
  rcases textW_sp v with ⟨e1, t1⟩ | ⟨e1, t1⟩ | ⟨e1, t1⟩ | ⟨e1, t1⟩ | ⟨e1, t1⟩ | t1 <;>
  rcases textW_sp w with ⟨e2, t2⟩ | ⟨e2, t2⟩ | ⟨e2, t2⟩ | ⟨e2, t2⟩ | ⟨e2, t2⟩ | t2 <;>
  rw [t1, t2] at h <;>
  first
    | exact e1.trans e2.symm
    | (exfalso; revert h; decide)
    | exact absurd (sp_top h (by decide)) not_false
    | exact absurd (sp_top h.symm (by decide)) not_false
    | exact hexN_inj v w hv hw (by
        have h2 := congrArg (fun b : ByteArray => b.data.toList) h
        simp only [top_list] at h2
        exact (List.cons.inj h2).2)
theorem polText_list (most : Int) (wt v lim tmo : Nat) : (polText most wt v lim tmo).data.toList = Lib.decDigits most.toNat ++ 47 :: (Lib.decDigits wt ++ 47 :: ((textW v).data.toList ++ 47 :: (Lib.decDigits lim ++ 47 :: Lib.decDigits tmo))) := by
  simp [polText, decB]
theorem bytes_ext {a b : ByteArray} (h : a.data.toList = b.data.toList) : a = b := by
  apply ByteArray.ext
  exact Array.toList_inj.1 h
theorem polText_inj (m m' : Int) (wt wt' v v' lim lim' tmo tmo' : Nat) (hm : 0 ≤ m) (hm' : 0 ≤ m') (hv : v < 18446744073709551616) (hv' : v' < 18446744073709551616) (h : polText m wt v lim tmo = polText m' wt' v' lim' tmo') :
    m = m' ∧ wt = wt' ∧ v = v' ∧ lim = lim' ∧ tmo = tmo' := by
  have h0 := congrArg (fun b : ByteArray => b.data.toList) h
  simp only [polText_list] at h0
  obtain ⟨e1, h1⟩ := split_eq (dec_noslash _) (dec_noslash _) h0
  obtain ⟨e2, h2⟩ := split_eq (dec_noslash _) (dec_noslash _) h1
  obtain ⟨e3, h3⟩ := split_eq (textW_noslash _) (textW_noslash _) h2
  obtain ⟨e4, h4⟩ := split_eq (dec_noslash _) (dec_noslash _) h3
  have d1 := dec_inj _ _ e1
  exact ⟨by omega, dec_inj _ _ e2, textW_inj v v' hv hv' (bytes_ext e3), dec_inj _ _ e4, dec_inj _ _ h4⟩
theorem joinT_pol (m : Int) (wt v lim tmo : Nat) : (⟨(Lib.join ([decB m.toNat, decB wt, textW v, decB lim, decB tmo].map (·.data.toList)) [47]).toArray⟩ : ByteArray) = polText m wt v lim tmo := by
  apply bytes_ext
  rw [polText_list]
  simp [Lib.join, List.intercalate, decB]
end Fu
end Go.Proofs.YtdibokeinmhmbaaDoor
