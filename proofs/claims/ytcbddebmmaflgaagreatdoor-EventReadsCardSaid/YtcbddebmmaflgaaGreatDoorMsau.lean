/- Values and events that are read, as pure steps. No program in sight. -/
/- What is read is a form: values. No program in sight. -/
/- The reference's readers: number, ReadUint, ReadInt. -/
/- The reference's ReadUint, ReadInt, Take, ReadBytes. -/
import Derived.Test.YtcbddebmmaflgaaGreatDoorMsas
import Derived.Test.YtcbddebmmaflgaaGreatDoorMsat
import Derived.Test.YtcbddebmmaflgaaGreatDoorMsad
import Derived.Test.YtcbddebmmaflgaaGreatDoorMsah
namespace Go.Proofs.YtcbddebmmaflgaaGreatDoor
open Go.RowKit
set_option linter.unusedVariables false
set_option linter.unusedSimpArgs false
namespace Rd
open _root_.Go.Proofs.YtcbddebmmaflgaaGreatDoor.Nm (bitsW ofW okW)
open Bt (ubytes sb)
open Vt (VT)
open Ev (EV fieldsOf)

/-- n readings, one behind another. -/
def rep {α : Type} (p : St → Option (St × α)) : Nat → St → Option (St × List α)
  | 0, s => some (s, [])
  | n + 1, s => match p s with
    | none => none
    | some (s1, t) => match rep p n s1 with
      | none => none
      | some (s2, ts) => some (s2, t :: ts)
theorem rep_some {α : Type} {p : St → Option (St × α)} {n : Nat} {s s1 : St} {t : α} (h : p s = some (s1, t)) : rep p (n + 1) s = (rep p n s1).map fun q => (q.1, t :: q.2) := by
  rw [rep, h]
  cases h2 : rep p n s1 with
  | none => simp [h2]
  | some q => obtain ⟨a, b⟩ := q; simp [h2]
theorem rep_none {α : Type} {p : St → Option (St × α)} {n : Nat} {s : St} (h : p s = none) : rep p (n + 1) s = none := by
  rw [rep, h]
/-- Bytes as a number, the highest first. -/
def beN (l : List Nat) : Nat := l.foldl (fun a b => a * 256 + b) 0

/-- A value's reading. -/
def pv : Nat → St → Option (St × VT)
  | left, s =>
    let q := rUint s
    if q.1.2 = true ∨ 4 < q.2 then none
    else if q.2 = 0 then some (q.1, .mk 0 0 0 ⟨#[]⟩ [])
    else if q.2 = 1 then (let z := rUint q.1; if z.1.2 = true then none else some (z.1, .mk 1 (unzz z.2) 0 ⟨#[]⟩ []))
    else if q.2 = 2 then (let z := rTake q.1 8; if z.1.2 = true ∨ okW (beN z.2) = false then none else some (z.1, .mk 2 0 (ofW (beN z.2)) ⟨#[]⟩ []))
    else if q.2 = 3 then (let z := rBytes q.1; if z.1.2 = true then none else some (z.1, .mk 3 0 0 (strOf z.2) []))
    else match left with
      | 0 => none
      | left + 1 => let z := rUint q.1; match rep (pv left) z.2 z.1 with
        | none => none
        | some (s3, ts) => if s3.2 = true then none else some (s3, .mk 4 0 0 ⟨#[]⟩ ts)

theorem pv_eq (left : Nat) (s : St) : pv left s = (if (rUint s).1.2 = true ∨ 4 < (rUint s).2 then none
    else if (rUint s).2 = 0 then some ((rUint s).1, .mk 0 0 0 ⟨#[]⟩ [])
    else if (rUint s).2 = 1 then (if (rUint (rUint s).1).1.2 = true then none else some ((rUint (rUint s).1).1, .mk 1 (unzz (rUint (rUint s).1).2) 0 ⟨#[]⟩ []))
    else if (rUint s).2 = 2 then (if (rTake (rUint s).1 8).1.2 = true ∨ okW (beN (rTake (rUint s).1 8).2) = false then none else some ((rTake (rUint s).1 8).1, .mk 2 0 (ofW (beN (rTake (rUint s).1 8).2)) ⟨#[]⟩ []))
    else if (rUint s).2 = 3 then (if (rBytes (rUint s).1).1.2 = true then none else some ((rBytes (rUint s).1).1, .mk 3 0 0 (strOf (rBytes (rUint s).1).2) []))
    else match left with
      | 0 => none
      | left + 1 => match rep (pv left) (rUint (rUint s).1).2 (rUint (rUint s).1).1 with
        | none => none
        | some (s3, ts) => if s3.2 = true then none else some (s3, .mk 4 0 0 ⟨#[]⟩ ts)) := by
  cases left <;> rw [pv]

theorem rUint_le (s : St) : (rUint s).1.1.length ≤ s.1.length := by
  unfold rUint; split
  · simp only [List.length_drop]; omega
  · exact Nat.le_refl _
theorem rTake_le (s : St) (n : Nat) : (rTake s n).1.1.length ≤ s.1.length := by
  unfold rTake; split
  · simp only [List.length_drop]; omega
  · exact Nat.le_refl _
theorem rBytes_le (s : St) : (rBytes s).1.1.length ≤ s.1.length := by
  unfold rBytes; split
  · split
    · simp only [List.length_drop]; omega
    · exact Nat.le_refl _
  · exact Nat.le_refl _
theorem rUint_lt {s : St} (hb : Byt s.1) (h : (rUint s).1.2 = false) : (rUint s).1.1.length < s.1.length := by
  unfold rUint at h ⊢
  split at h
  · rename_i x n hn
    simp only [hn, List.length_drop]
    have h1 : s.2 = false := (nxt_le hb hn).1
    unfold nxt at hn
    rw [h1, if_neg (by simp)] at hn
    obtain ⟨-, -, -, h4, h5⟩ := num_some hb hn
    omega
  · cases h
theorem rep_le {α : Type} {p : St → Option (St × α)} (hp : ∀ s s' t, p s = some (s', t) → s'.1.length ≤ s.1.length) : ∀ (n : Nat) (s s' : St) (ts : List α), rep p n s = some (s', ts) → s'.1.length ≤ s.1.length := by
  intro n
  induction n with
  | zero => intro s s' ts h; rw [rep] at h; injection h with h; injection h with h _; rw [h]; exact Nat.le_refl _
  | succ n ih =>
    intro s s' ts h
    rw [rep] at h
    split at h
    · cases h
    · rename_i s1 t h1
      split at h
      · cases h
      · rename_i s2 ts2 h2
        injection h with h; injection h with h _
        have := hp _ _ _ h1
        have := ih _ _ _ h2
        rw [← h]; omega
theorem pv_rest (left : Nat) : ∀ (s s' : St) (t : VT), pv left s = some (s', t) → (rUint s).1.2 = false ∧ s'.1.length ≤ (rUint s).1.1.length ∧ s'.2 = false := by
  induction left with
  | zero =>
    intro s s' t h
    rw [pv_eq] at h
    split at h
    · cases h
    · rename_i h0
      have h0' : (rUint s).1.2 = false := by cases hh : (rUint s).1.2 with
        | true => exact absurd (.inl hh) h0
        | false => rfl
      refine ⟨h0', ?_⟩
      split at h
      · injection h with h; injection h with h _; rw [← h]; exact ⟨Nat.le_refl _, h0'⟩
      · split at h
        · split at h
          · cases h
          · rename_i h9; injection h with h; injection h with h _; rw [← h]; exact ⟨rUint_le _, by simpa using h9⟩
        · split at h
          · split at h
            · cases h
            · rename_i h9; injection h with h; injection h with h _; rw [← h]; exact ⟨rTake_le _ _, by simp at h9; exact h9.1⟩
          · split at h
            · split at h
              · cases h
              · rename_i h9; injection h with h; injection h with h _; rw [← h]; exact ⟨rBytes_le _, by simpa using h9⟩
            · cases h
  | succ left ih =>
    intro s s' t h
    rw [pv_eq] at h
    split at h
    · cases h
    · rename_i h0
      have h0' : (rUint s).1.2 = false := by cases hh : (rUint s).1.2 with
        | true => exact absurd (.inl hh) h0
        | false => rfl
      refine ⟨h0', ?_⟩
      split at h
      · injection h with h; injection h with h _; rw [← h]; exact ⟨Nat.le_refl _, h0'⟩
      · split at h
        · split at h
          · cases h
          · rename_i h9; injection h with h; injection h with h _; rw [← h]; exact ⟨rUint_le _, by simpa using h9⟩
        · split at h
          · split at h
            · cases h
            · rename_i h9; injection h with h; injection h with h _; rw [← h]; exact ⟨rTake_le _ _, by simp at h9; exact h9.1⟩
          · split at h
            · split at h
              · cases h
              · rename_i h9; injection h with h; injection h with h _; rw [← h]; exact ⟨rBytes_le _, by simpa using h9⟩
            · cases h3 : rep (pv left) (rUint (rUint s).1).2 (rUint (rUint s).1).1 with
              | none => simp only [h3] at h; cases h
              | some q =>
                obtain ⟨s3, ts⟩ := q
                simp only [h3] at h
                cases h9 : s3.2 with
                | true => rw [if_pos h9] at h; cases h
                | false =>
                  rw [if_neg (by simp [h9])] at h
                  injection h with h; injection h with h _
                  have := rep_le (fun s s' t hh => Nat.le_trans (ih s s' t hh).2.1 (rUint_le s)) _ _ _ _ h3
                  have := rUint_le (rUint s).1
                  rw [← h]
                  exact ⟨by omega, h9⟩
theorem pv_lt {left : Nat} {s s' : St} {t : VT} (hb : Byt s.1) (h : pv left s = some (s', t)) : s'.1.length < s.1.length := by
  obtain ⟨h1, h2, -⟩ := pv_rest left s s' t h
  have := rUint_lt hb h1
  omega
/-- A list that is read, after some of its values. -/
theorem rep_acc {α : Type} {p : St → Option (St × α)} {n j : Nat} {s sj sj' : St} {acc : List α} {t : α} (h : rep p n s = (rep p (n - j) sj).map fun q => (q.1, acc ++ q.2)) (hj : j < n) (hp : p sj = some (sj', t)) : rep p n s = (rep p (n - (j + 1)) sj').map fun q => (q.1, (acc ++ [t]) ++ q.2) := by
  rw [h, show n - j = (n - (j + 1)) + 1 by omega, rep_some hp]
  cases rep p (n - (j + 1)) sj' <;> simp
theorem rep_stop {α : Type} {p : St → Option (St × α)} {n j : Nat} {s sj : St} {acc : List α} (h : rep p n s = (rep p (n - j) sj).map fun q => (q.1, acc ++ q.2)) (hj : j < n) (hp : p sj = none) : rep p n s = none := by
  rw [h, show n - j = (n - (j + 1)) + 1 by omega, rep_none hp]; rfl
theorem rep_end {α : Type} {p : St → Option (St × α)} {n : Nat} {s sj : St} {acc : List α} (h : rep p n s = (rep p (n - n) sj).map fun q => (q.1, acc ++ q.2)) : rep p n s = some (sj, acc) := by
  rw [h, Nat.sub_self, rep]; simp
end Rd
end Go.Proofs.YtcbddebmmaflgaaGreatDoor
namespace Go.Proofs.YtcbddebmmaflgaaGreatDoor
open Go.RowKit
set_option linter.unusedVariables false
set_option linter.unusedSimpArgs false
namespace Rd
open _root_.Go.Proofs.YtcbddebmmaflgaaGreatDoor.Nm (bitsW ofW okW)
open Bt (ubytes sb sb_len)
open Vt (VT)
open Pf (sform zz be8 form_mk fine_mk)

theorem byt_map {l : List Nat} (h : Byt l) : (l.map UInt8.ofNat).map (·.toNat) = l := by
  rw [List.map_map]
  refine (List.map_congr_left fun b hb => ?_).trans (List.map_id l)
  simp only [Function.comp]
  rw [UInt8.toNat_ofNat']
  have := h b hb
  show b % 256 = b
  omega
theorem sb_strOf {l : List Nat} (h : Byt l) : sb (strOf l) = l := by
  show (((l.map UInt8.ofNat).toArray).toList).map (·.toNat) = l
  exact byt_map h
theorem strOf_size (l : List Nat) : (strOf l).size = l.length := by
  show ((l.map UInt8.ofNat).toArray).size = l.length
  simp
theorem rUint_form {s : St} (hb : Byt s.1) (h : (rUint s).1.2 = false) : s.2 = false ∧ s.1 = ubytes 10 (rUint s).2 ++ (rUint s).1.1 ∧ (rUint s).2 < 18446744073709551616 := by
  unfold rUint at h ⊢
  split at h
  · rename_i x n hn
    simp only [hn]
    have h1 : s.2 = false := (nxt_le hb hn).1
    have hn' := hn
    unfold nxt at hn'
    rw [h1, if_neg (by simp)] at hn'
    obtain ⟨h2, -, h4, -, -⟩ := num_some hb hn'
    exact ⟨h1, h4, h2⟩
  · cases h
theorem rTake_form {s : St} {n : Nat} (h : (rTake s n).1.2 = false) : s.2 = false ∧ s.1 = (rTake s n).2 ++ (rTake s n).1.1 ∧ (rTake s n).2.length = n := by
  unfold rTake at h ⊢
  split at h
  · rename_i hc
    rw [if_pos hc]
    exact ⟨hc.1, (List.take_append_drop n s.1).symm, by rw [List.length_take]; omega⟩
  · cases h
theorem rBytes_eq {s : St} {x n : Nat} (hn : nxt s = some (x, n)) : rBytes s = if x ≤ s.1.length - n then ((s.1.drop (n + x), false), (s.1.drop n).take x) else ((s.1, true), []) := by unfold rBytes; rw [hn]
theorem rBytes_no {s : St} (hn : nxt s = none) : rBytes s = ((s.1, true), []) := by unfold rBytes; rw [hn]
theorem rBytes_form {s : St} (hb : Byt s.1) (h : (rBytes s).1.2 = false) : s.2 = false ∧ s.1 = sform (strOf (rBytes s).2) ++ (rBytes s).1.1 ∧ (rBytes s).2.length < 18446744073709551616 := by
  cases hn : nxt s with
  | none => rw [rBytes_no hn] at h; cases h
  | some p =>
    obtain ⟨x, n⟩ := p
    rw [rBytes_eq hn] at h ⊢
    have h1 : s.2 = false := (nxt_le hb hn).1
    have hn' := hn
    unfold nxt at hn'
    rw [h1, if_neg (by simp)] at hn'
    obtain ⟨h2, -, h4, h5, -⟩ := num_some hb hn'
    by_cases hx : x ≤ s.1.length - n
    · rw [if_pos hx]
      have hlen : ((s.1.drop n).take x).length = x := by rw [List.length_take, List.length_drop]; omega
      refine ⟨h1, ?_, by rw [hlen]; exact h2⟩
      unfold sform
      rw [strOf_size, sb_strOf (byt_take (byt_drop hb _) _), hlen, List.append_assoc, ← List.drop_drop, List.take_append_drop]
      exact h4
    · rw [if_neg hx] at h; cases h

theorem zz_unzz (x : Nat) (h : x < 18446744073709551616) : zz (unzz x) = x ∧ -9223372036854775808 ≤ unzz x ∧ unzz x ≤ 9223372036854775807 := by
  unfold zz unzz
  split
  · rename_i h0
    rw [if_pos (by omega)]
    omega
  · rename_i h0
    rw [if_neg (by omega)]
    omega
theorem be8_beN {l : List Nat} (hb : Byt l) (hl : l.length = 8) : be8 (beN l) = l ∧ beN l < 18446744073709551616 := by
  match l, hl with
  | [a, b, c, d, e, f, g, h], _ =>
    have ha := hb a (by simp); have hb' := hb b (by simp); have hc := hb c (by simp); have hd := hb d (by simp)
    have he := hb e (by simp); have hf := hb f (by simp); have hg := hb g (by simp); have hh := hb h (by simp)
    simp only [beN, List.foldl_cons, List.foldl_nil, be8, List.cons.injEq, and_true]
    omega
theorem bits_of {b : Nat} (h : okW b = true) : bitsW (ofW b) = b := by
  unfold ofW
  rw [if_pos h]
  unfold okW at h
  unfold bitsW
  split
  · rename_i hn
    rw [hn] at h
    simp at h
    exact h.symm
  · rfl
theorem rep_form {α : Type} {p : St → Option (St × α)} {F : α → List Nat} {Q : α → Prop} (hp : ∀ s s' t, Byt s.1 → p s = some (s', t) → s.2 = false ∧ s'.2 = false ∧ s.1 = F t ++ s'.1 ∧ Q t) :
    ∀ (n : Nat) (s s' : St) (ts : List α), Byt s.1 → s.2 = false → rep p n s = some (s', ts) → s'.2 = false ∧ s.1 = (ts.map F).flatten ++ s'.1 ∧ ts.length = n ∧ (∀ t ∈ ts, Q t) := by
  intro n
  induction n with
  | zero =>
    intro s s' ts hb h2 h
    rw [rep] at h; injection h with h; injection h with h h'
    subst h h'
    exact ⟨h2, by simp, rfl, fun t ht => absurd ht (by simp)⟩
  | succ n ih =>
    intro s s' ts hb h2 h
    rw [rep] at h
    split at h
    · cases h
    · rename_i s1 t h1
      split at h
      · cases h
      · rename_i s2 ts2 h3
        injection h with h; injection h with h h'
        subst h h'
        obtain ⟨a1, a2, a3, a4⟩ := hp _ _ _ hb h1
        obtain ⟨b1, b2, b3, b4⟩ := ih s1 _ _ (fun b hb' => hb b (by rw [a3]; exact List.mem_append_right _ hb')) a2 h3
        refine ⟨b1, by rw [List.map_cons, List.flatten_cons, List.append_assoc, ← b2]; exact a3, by rw [List.length_cons, b3], fun x hx => ?_⟩
        rcases List.mem_cons.1 hx with rfl | hx
        · exact a4
        · exact b4 x hx

theorem bool_of {b : Bool} (h : ¬ b = true) : b = false := by simpa using h
theorem bits0 : bitsW 0 = 0 := by decide
theorem sz0 : (⟨#[]⟩ : ByteArray).size = 0 := rfl
/-- A value that is read is valid, and its form was there. -/
theorem pv_form (d : Nat) : ∀ (s s' : St) (t : VT), Byt s.1 → pv d s = some (s', t) → s.2 = false ∧ s'.2 = false ∧ s.1 = Pf.VT.form t ++ s'.1 ∧ (t.valid d = true ∧ Pf.VT.fine t) := by
  have key : ∀ (d : Nat) (s s' : St) (t : VT), Byt s.1 → (∀ d', d = d' + 1 → ∀ (s s' : St) (t : VT), Byt s.1 → pv d' s = some (s', t) → s.2 = false ∧ s'.2 = false ∧ s.1 = Pf.VT.form t ++ s'.1 ∧ (t.valid d' = true ∧ Pf.VT.fine t)) → pv d s = some (s', t) →
      s.2 = false ∧ s'.2 = false ∧ s.1 = Pf.VT.form t ++ s'.1 ∧ (t.valid d = true ∧ Pf.VT.fine t) := by
    intro d s s' t hb ih h
    rw [pv_eq] at h
    split at h
    · cases h
    · rename_i h0
      have h0' : (rUint s).1.2 = false := bool_of fun hh => h0 (.inl hh)
      obtain ⟨e1, e2, e3⟩ := rUint_form hb h0'
      have hb1 : Byt (rUint s).1.1 := fun b hb' => hb b (by rw [e2]; exact List.mem_append_right _ hb')
      generalize rUint s = q at *
      obtain ⟨s1, k⟩ := q
      simp only at *
      refine ⟨e1, ?_⟩
      split at h
      · rename_i hk
        injection h with h; injection h with h h'
        subst h h' hk
        refine ⟨h0', ?_, ?_, ?_⟩
        · rw [form_mk]; simpa using e2
        · rw [Vt.valid_mk, bits0, sz0]; simp
        · rw [fine_mk, sz0]; simp
      · split at h
        · rename_i hk
          split at h
          · cases h
          · rename_i h9
            injection h with h; injection h with h h'
            obtain ⟨f1, f2, f3⟩ := rUint_form hb1 (bool_of h9)
            obtain ⟨z1, z2, z3⟩ := zz_unzz _ f3
            subst h h' hk
            refine ⟨bool_of h9, ?_, ?_, ?_⟩
            · rw [form_mk, if_pos rfl, z1, List.append_assoc, ← f2]; exact e2
            · rw [Vt.valid_mk, bits0, sz0]; simp
            · rw [fine_mk, sz0]; exact ⟨⟨z2, z3, by decide, by decide, by decide⟩, fun t ht => absurd ht (by simp)⟩
        · split at h
          · rename_i hk
            split at h
            · cases h
            · rename_i h9
              injection h with h; injection h with h h'
              have h9a : (rTake s1 8).1.2 = false := bool_of fun hh => h9 (.inl hh)
              have h9b : okW (beN (rTake s1 8).2) = true := by
                cases hh : okW (beN (rTake s1 8).2) with
                | true => rfl
                | false => exact absurd (.inr hh) h9
              obtain ⟨f1, f2, f3⟩ := rTake_form h9a
              have hb2 : Byt (rTake s1 8).2 := fun b hb' => hb1 b (by rw [f2]; exact List.mem_append_left _ hb')
              obtain ⟨g1, g2⟩ := be8_beN hb2 f3
              subst h h' hk
              refine ⟨h9a, ?_, ?_, ?_⟩
              · rw [form_mk, if_neg (by decide), if_pos rfl, bits_of h9b, g1, List.append_assoc, ← f2]; exact e2
              · rw [Vt.valid_mk, sz0]; simp
              · rw [fine_mk]
                refine ⟨⟨by decide, by decide, ?_, by decide, by simp⟩, fun t ht => absurd ht (by simp)⟩
                unfold ofW
                split <;> omega
          · split at h
            · rename_i hk
              split at h
              · cases h
              · rename_i h9
                injection h with h; injection h with h h'
                obtain ⟨f1, f2, f3⟩ := rBytes_form hb1 (bool_of h9)
                subst h h' hk
                refine ⟨bool_of h9, ?_, ?_, ?_⟩
                · rw [form_mk, if_neg (by decide), if_neg (by decide), if_pos rfl, List.append_assoc, ← f2]; exact e2
                · rw [Vt.valid_mk, bits0]; simp
                · rw [fine_mk]
                  exact ⟨⟨by decide, by decide, by decide, by rw [strOf_size]; exact f3, by simp⟩, fun t ht => absurd ht (by simp)⟩
            · have hk4 : k = 4 := by omega
              cases d with
              | zero => cases h
              | succ d =>
                simp only at h
                cases h3 : rep (pv d) (rUint s1).2 (rUint s1).1 with
                | none => simp only [h3] at h; cases h
                | some q3 =>
                  obtain ⟨s3, ts⟩ := q3
                  simp only [h3] at h
                  cases h9 : s3.2 with
                  | true => rw [if_pos h9] at h; cases h
                  | false =>
                    rw [if_neg (by simp [h9])] at h
                    injection h with h; injection h with h h'
                    cases hbad : (rUint s1).1.2 with
                    | true =>
                      exfalso
                      have hz : rUint s1 = ((s1.1, true), 0) := by
                        cases hn : nxt s1 with
                        | none => unfold rUint; rw [hn]
                        | some p => unfold rUint at hbad; rw [hn] at hbad; cases hbad
                      rw [hz, rep] at h3
                      injection h3 with h3; injection h3 with h3 _
                      rw [← h3] at h9; cases h9
                    | false =>
                      obtain ⟨f1, f2, f3⟩ := rUint_form hb1 hbad
                      have hb2 : Byt (rUint s1).1.1 := fun b hb' => hb1 b (by rw [f2]; exact List.mem_append_right _ hb')
                      obtain ⟨g1, g2, g3, g4⟩ := rep_form (F := Pf.VT.form) (Q := fun t => t.valid d = true ∧ Pf.VT.fine t) (ih d rfl) _ _ _ _ hb2 hbad h3
                      subst h h' hk4
                      refine ⟨g1, ?_, ?_, ?_⟩
                      · rw [form_mk, if_neg (by decide), if_neg (by decide), if_neg (by decide), if_pos rfl, g3, List.append_assoc, List.append_assoc, ← g2, ← f2]; exact e2
                      · rw [Vt.valid_mk, bits0, sz0]
                        have := List.all_eq_true.2 fun t ht => (g4 t ht).1
                        simp [this]
                      · rw [fine_mk]
                        exact ⟨⟨by decide, by decide, by decide, by decide, by rw [g3]; exact f3⟩, fun t ht => (g4 t ht).2⟩
  induction d with
  | zero => exact fun s s' t hb h => key 0 s s' t hb (fun d' h => by omega) h
  | succ d ih => exact fun s s' t hb h => key (d + 1) s s' t hb (fun d' h => by obtain rfl : d = d' := by omega
                                                                                exact ih) h
def rText (s : St) : St × ByteArray := ((rBytes s).1, strOf (rBytes s).2)
theorem rText_size {s : St} (hb : Byt s.1) (hl : s.1.length ≤ 1099511627776) : (rText s).2.size ≤ 1099511627776 := by
  show (strOf (rBytes s).2).size ≤ _
  rw [strOf_size]
  unfold rBytes
  split
  · split
    · simp only [List.length_take, List.length_drop]; omega
    · simp
  · simp
theorem rUint_val {s : St} (hb : Byt s.1) : (rUint s).2 < 18446744073709551616 := by
  unfold rUint
  split
  · rename_i x n hn; exact (nxt_le hb hn).2.2
  · show (0 : Nat) < _; omega
end Rd
end Go.Proofs.YtcbddebmmaflgaaGreatDoor
namespace Go.Proofs.YtcbddebmmaflgaaGreatDoor
open Go.RowKit
set_option linter.unusedVariables false
set_option linter.unusedSimpArgs false
namespace Rd
open _root_.Go.Proofs.YtcbddebmmaflgaaGreatDoor.Nm (ret_int ret_bool)
open Cn (BRd brd_own)

theorem lt128 : ∀ j, j < 9 → (128 : Nat) ^ j * 128 ≤ 9223372036854775808 := by decide
theorem ref_step (X d j : Nat) (hX : X < 128 ^ j) (hd : d < 128) (hj : j < 10) (h9 : j = 9 → d ≤ 1) : d * 128 ^ j < 18446744073709551616 ∧ X + d * 128 ^ j < 18446744073709551616 := by
  rcases (by omega : j < 9 ∨ j = 9) with h | h
  · have h1 := lt128 j h
    have h2 : d * 128 ^ j ≤ 127 * 128 ^ j := Nat.mul_le_mul_right _ (by omega)
    omega
  · subst h
    have h2 := h9 rfl
    have h3 : (128 : Nat) ^ 9 = 9223372036854775808 := by decide
    rw [h3] at hX ⊢
    omega
theorem shl_eq (d j : Nat) (h : d * 128 ^ j < 18446744073709551616) : (d : Int) * 2 ^ (7 * j) = ((d * 128 ^ j : Nat) : Int) := by
  have e1 : (2 : Int) ^ (7 * j) = ((128 ^ j : Nat) : Int) := by
    rw [show ((128 : Nat) ^ j) = 2 ^ (7 * j) from by rw [show (128 : Nat) = 2 ^ 7 from rfl, ← Nat.pow_mul]]
    simp
  rw [e1, Int.natCast_mul]
/-- What number answers. -/
def numV (o : Option (Nat × Nat)) : Value := match o with | some (x, n) => .tuple #[.int .u64 (x : Nat), .int .i64 (n : Nat)] | none => .tuple #[.int .u64 0, .int .i64 0]
theorem numV_some {l : List Nat} {x n : Nat} (h : num l = some (x, n)) : Value.tuple #[.int .u64 (x : Nat), .int .i64 (n : Nat)] = numV (num l) := by rw [h]; rfl
theorem numV_none {l : List Nat} (h : num l = none) : Value.tuple #[.int .u64 0, .int .i64 0] = numV (num l) := by rw [h]; rfl

set_option maxRecDepth 100000 in
set_option maxHeartbeats 4000000 in
theorem number_any (v : Value) (l : List Nat) (hb : Byt l) (w : World) (h : BRd w v l) :
    Calls Tryz.prog 81 #[v] w fun r w' => r = .returned (numV (num l)) ∧ w = w' := by
  obtain ⟨A, cap, hv⟩ := h.form
  subst hv
  have HB := Lib.hid h
  have HY := Lib.hid hb
  clear h hb
  go_enter Tryz.func81, Tryz.ntmps81
  go_wp2_with fail
  go_loopw [4, 5] (fun xv iv wr => ∃ (j X : Nat), j ≤ l.length ∧ j ≤ 10 ∧ iv = .int .i64 j ∧ xv = .int .u64 X ∧ X < 128 ^ j ∧ nf 10 0 0 l = nf (10 - j) j X (l.drop j) ∧ wr = w) (fun _ i _ => 10 - (intOf i).toNat)
  case atStart => exact ⟨0, 0, by omega, by omega, rfl, rfl, by decide, rfl, rfl⟩
  case round =>
    obtain ⟨j, X, hj, hj10, rfl, rfl, hX, hnf, rfl⟩ := hrel
    have HNF := Lib.hid hnf
    have HX := Lib.hid hX
    clear hnf hX
    by_cases hlt : j < l.length
    · by_cases h10 : j < 10
      · rcases HB.out with ⟨h1, h2⟩ | ⟨b, off, cap2, h1, h2, h3, h4, h5⟩
        · rw [h2] at hlt; exact absurd hlt (by simp)
        · injection h1 with h1 _ h1c
          subst h1 h1c
          have c1 := h5 j hlt
          obtain ⟨c, hc⟩ : ∃ c, c = l[j] := ⟨_, rfl⟩
          rw [← hc] at c1
          have hcb : c < 256 := by rw [hc]; exact HY.out _ (List.getElem_mem hlt)
          have HD : Hid (nf 10 0 0 l = if j = 9 ∧ 1 < c % 128 then none else if c < 128 then (if 0 < j ∧ c % 128 = 0 then none else some (X + c % 128 * 128 ^ j, j + 1)) else nf (10 - (j + 1)) (j + 1) (X + c % 128 * 128 ^ j) (l.drop (j + 1))) := Lib.hid (by
            rw [HNF.out, List.drop_eq_getElem_cons hlt, show 10 - j = (10 - (j + 1)) + 1 by omega, ← hc, nf])
          clear h5 hc h2
          obtain ⟨d, hd⟩ : ∃ d, d = c % 128 := ⟨_, rfl⟩
          have hd128 : d < 128 := by omega
          have hmod : (c : Int) % 128 = (d : Int) := by omega
          have htm : Int.tmod (c : Int) 128 = (d : Int) := by rw [Int.tmod_eq_emod_of_nonneg (by omega)]; exact hmod
          rw [← hd] at HD
          have HDD := Lib.hid hd
          clear hd
          by_cases h9 : j = 9 ∧ 1 < d
          · obtain ⟨rfl, h1d⟩ := h9
            have HN : Hid (num l = none) := Lib.hid (by show nf 10 0 0 l = none; rw [HD.out, if_pos ⟨rfl, h1d⟩])
            go_wp2_with fail
            refine bodyPost_ret (v := .tuple #[.int .u64 0, .int .i64 0]) (by simp [results, Tryz.results81, go_sem]) rfl ?_
            exact ⟨congrArg Ending.returned (numV_none HN.out), rfl⟩
          · obtain ⟨s1, s2⟩ := ref_step X d j HX.out hd128 h10 (fun e => by
              have := fun h => h9 ⟨e, h⟩
              omega)
            have hsh := shl_eq d j s1
            have h9a : ((j : Int) == 9) = true → ¬ (1 < d) := fun e h => h9 ⟨by simp at e; omega, h⟩
            have HXL : Hid (X + d * 128 ^ j < 128 ^ (j + 1)) := Lib.hid (by
              have hx := HX.out
              have : d * 128 ^ j ≤ 127 * 128 ^ j := Nat.mul_le_mul_right _ (by omega)
              have hp : (128 : Nat) ^ (j + 1) = 128 ^ j * 128 := Nat.pow_succ ..
              omega)
            obtain ⟨y, hy⟩ : ∃ y, y = d * 128 ^ j := ⟨_, rfl⟩
            rw [← hy] at hsh s1 s2 HXL HD
            have hw1 : IntKind.u64.wrap ((X : Int) + (y : Int)) = ((X + y : Nat) : Int) := by rw [IntKind.wrap_u64]; omega
            clear hy HX
            by_cases hc128 : c < 128
            · by_cases h0 : 0 < j ∧ d = 0
              · obtain ⟨h0j, rfl⟩ := h0
                have HN : Hid (num l = none) := Lib.hid (by show nf 10 0 0 l = none; rw [HD.out, if_neg h9, if_pos hc128, if_pos ⟨h0j, rfl⟩])
                by_cases hj9 : j = 9
                · have hb9 : ((j : Int) == 9) = true := beq_iff_eq.2 (by omega)
                  have HJ9 := Lib.hid hj9
                  clear hj9
                  go_wp2_with fail
                  refine bodyPost_ret (v := .tuple #[.int .u64 0, .int .i64 0]) (by simp [results, Tryz.results81, go_sem]) rfl ?_
                  exact ⟨congrArg Ending.returned (numV_none HN.out), rfl⟩
                · have hb9 : ((j : Int) == 9) = false := beq_eq_false_iff_ne.2 (by omega)
                  go_wp2_with fail
                  refine bodyPost_ret (v := .tuple #[.int .u64 0, .int .i64 0]) (by simp [results, Tryz.results81, go_sem]) rfl ?_
                  exact ⟨congrArg Ending.returned (numV_none HN.out), rfl⟩
              · have HN : Hid (num l = some (X + y, j + 1)) := Lib.hid (by show nf 10 0 0 l = _; rw [HD.out, if_neg h9, if_pos hc128, if_neg h0])
                by_cases hj9 : j = 9
                · have hb9 : ((j : Int) == 9) = true := beq_iff_eq.2 (by omega)
                  have hd0 : ¬ (1 < d) := fun h => h9 ⟨hj9, h⟩
                  have hb0 : ((d : Int) == 0) = false := beq_eq_false_iff_ne.2 (by have := fun h => h0 ⟨by omega, h⟩; omega)
                  have hj0 : 0 < j := by omega
                  have HJ9 := Lib.hid hj9
                  clear hj9
                  go_wp2_with fail
                  refine bodyPost_ret (v := .tuple #[.int .u64 (X + y : Nat), .int .i64 (j + 1 : Nat)]) (by simp [results, Tryz.results81, go_sem]) rfl ?_
                  exact ⟨congrArg Ending.returned (numV_some HN.out), rfl⟩
                · have hb9 : ((j : Int) == 9) = false := beq_eq_false_iff_ne.2 (by omega)
                  by_cases hj0 : 0 < j
                  · have hb0 : ((d : Int) == 0) = false := beq_eq_false_iff_ne.2 (by have := fun h => h0 ⟨hj0, h⟩; omega)
                    go_wp2_with fail
                    refine bodyPost_ret (v := .tuple #[.int .u64 (X + y : Nat), .int .i64 (j + 1 : Nat)]) (by simp [results, Tryz.results81, go_sem]) rfl ?_
                    exact ⟨congrArg Ending.returned (numV_some HN.out), rfl⟩
                  · go_wp2_with fail
                    refine bodyPost_ret (v := .tuple #[.int .u64 (X + y : Nat), .int .i64 (j + 1 : Nat)]) (by simp [results, Tryz.results81, go_sem]) rfl ?_
                    exact ⟨congrArg Ending.returned (numV_some HN.out), rfl⟩
            · have HN : Hid (nf 10 0 0 l = nf (10 - (j + 1)) (j + 1) (X + y) (l.drop (j + 1))) := Lib.hid (by rw [HD.out, if_neg h9, if_neg hc128])
              by_cases hj9 : j = 9
              · have hb9 : ((j : Int) == 9) = true := beq_iff_eq.2 (by omega)
                have hd0 : ¬ (1 < d) := fun h => h9 ⟨hj9, h⟩
                have HJ9 := Lib.hid hj9
                clear hj9
                go_wp2_with fail
                go_roundw
                case rel => exact ⟨_, X + y, by omega, by omega, by go_num, by first | rfl | rw [hw1] | simp, HXL.out, HN.out, by simp⟩
                case measure => simp [intOf]; omega
              · have hb9 : ((j : Int) == 9) = false := beq_eq_false_iff_ne.2 (by omega)
                go_wp2_with fail
                go_roundw
                case rel => exact ⟨j + 1, X + y, by omega, by omega, by go_num, by first | rfl | rw [hw1] | simp, HXL.out, HN.out, by simp⟩
                case measure => simp [intOf]; omega
      · obtain rfl : j = 10 := by omega
        have HN : Hid (num l = none) := Lib.hid (by show nf 10 0 0 l = none; rw [HNF.out]; rfl)
        go_wp2_with fail
        refine bodyPost_ret (v := .tuple #[.int .u64 0, .int .i64 0]) (by simp [results, Tryz.results81, go_sem]) rfl ?_
        exact ⟨congrArg Ending.returned (numV_none HN.out), rfl⟩
    · have HN : Hid (num l = none) := Lib.hid (by
        show nf 10 0 0 l = none
        rw [HNF.out, List.drop_eq_nil_of_le (by omega)]
        cases 10 - j <;> rfl)
      go_wp2_with fail
      refine bodyPost_ret (v := .tuple #[.int .u64 0, .int .i64 0]) (by simp [results, Tryz.results81, go_sem]) rfl ?_
      exact ⟨congrArg Ending.returned (numV_none HN.out), rfl⟩
end Rd
end Go.Proofs.YtcbddebmmaflgaaGreatDoor
namespace Go.Proofs.YtcbddebmmaflgaaGreatDoor
open Go.RowKit
set_option linter.unusedVariables false
set_option linter.unusedSimpArgs false
namespace Rd
open _root_.Go.Proofs.YtcbddebmmaflgaaGreatDoor.Nm (ret_int ret_bool)
open Cn (BRd brd_own)
open Vt (below_drew)
open Ev (take_drop cons_drop)
open _root_.Go.Proofs.YtcbddebmmaflgaaGreatDoor.Bt (ownBlock_slice)

/-- A reference's reader as a value; its bytes lie below B. -/
def RV (w : World) (B : Nat) (s : St) (x : Value) : Prop := (∃ v, x = .agg #[v, .bool s.2] ∧ BRd w v s.1 ∧ Far v B) ∧ Byt s.1 ∧ s.1.length ≤ 1099511627776
theorem RV.keep {w w' : World} {B : Nat} {s : St} {x : Value} (h : RV w B s x) (hz : w.heap.size ≤ w'.heap.size) (hk : ∀ b, b < B → w'.heap[b]? = w.heap[b]?) : RV w' B s x :=
  ⟨h.1.imp fun v hv => ⟨hv.1, brd_keep hv.2.1 hz fun k e => hk k (hv.2.2 k e), hv.2.2⟩, h.2⟩
theorem RV.below {w w' : World} {B C : Nat} {s : St} {x : Value} (h : RV w B s x) (hb : Below C w w') (hB : B ≤ C) : RV w' B s x := h.keep hb.size fun b hb' => hb.block b (by omega)
/-- A box with a reference's reader. -/
def QB (w : World) (b : Nat) (v : Value) (bad : Bool) : Prop := w.heap[b]? = some (.cells #[v, .bool bad] 36 (0, 0))
theorem QB.cells {w : World} {b : Nat} {v : Value} {bad : Bool} (h : QB w b v bad) : w.cell? ⟨b, 0, none⟩ = some v ∧ w.cell? ⟨b, 1, none⟩ = some (.bool bad) ∧ w.frozen? ⟨b, 0, none⟩ = false ∧ w.frozen? ⟨b, 1, none⟩ = false := by
  unfold QB at h; simp [World.cell?, World.frozen?, h]
theorem QB.lt {w : World} {b : Nat} {v : Value} {bad : Bool} (h : QB w b v bad) : b < w.heap.size := (Array.getElem?_eq_some_iff.1 h).1
theorem QB.later {w w' : World} {b B : Nat} {v : Value} {bad : Bool} (h : QB w b v bad) (hb : Below B w w') (hg : b < B) : QB w' b v bad := (hb.block b hg).trans h
theorem two_boxes (w : World) (v : Value) (bad : Bool) : ∃ W0, W0 = (w.alloc (.cells #[v, .bool bad] 36)).alloc (.cells #[.slice none 0 0, .bool false] 36) ∧ QB W0 w.heap.size v bad ∧ QB W0 (w.heap.size + 1) (.slice none 0 0) false ∧ Below w.heap.size w W0 ∧ W0.heap.size = w.heap.size + 2 := by
  refine ⟨_, rfl, ?_, ?_, ((Below.refl _ _).alloc (Nat.le_refl _) _).alloc (by simp) _, by simp⟩
  · exact (heap_alloc_old _ _ (by simp)).trans (heap_alloc_new w _)
  · have e := heap_alloc_new (w.alloc (.cells #[v, .bool bad] 36)) (.cells #[.slice none 0 0, .bool false] 36)
    rw [World.size_alloc] at e
    exact e
theorem numV_form (l : List Nat) : ∃ X N : Nat, numV (num l) = .tuple #[.int .u64 (X : Nat), .int .i64 (N : Nat)] := by
  cases h : num l with
  | none => exact ⟨0, 0, rfl⟩
  | some p => obtain ⟨x, n⟩ := p; exact ⟨x, n, rfl⟩
theorem below_set2 {B : Nat} {w W : World} {b : Nat} (h : Below B w W) (hb : B ≤ b) (o : Nat) (v : Value) : Below B w (W.setCell ⟨b, o, none⟩ v) := h.setCell hb v
/-- What is left of bytes. -/
theorem brd_dropC {w : World} {b off n cap : Nat} {l : List Nat} (h : BRd w (.slice (some ⟨b, off, none⟩) l.length cap) l) (hn : n ≤ l.length) (hc : cap = n) : BRd w (.slice (some ⟨b, off, none⟩) 0 0) (l.drop n) := by
  rcases h with ⟨h, -⟩ | ⟨b', off', cap', h1, h2, h3, h4, h5⟩
  · cases h
  · injection h1 with h1 _ h1c
    injection h1 with h1
    injection h1 with h1a h1b
    subst h1a h1b h1c
    have hln : l.length = n := by omega
    exact .inr ⟨b, off, 0, by rw [List.length_drop, hln, Nat.sub_self], by rw [List.length_drop]; omega, Nat.zero_le _, h4, fun j hj => by rw [List.length_drop] at hj; omega⟩
theorem rv_end {w w' : World} {B : Nat} {y : Value} {s' : St} (hx : BRd w y s'.1) (hf : Far y B) (hb : Byt s'.1) (hl : s'.1.length ≤ 1099511627776) (hfin : Below w.heap.size w w') : RV w' B s' (.agg #[y, .bool s'.2]) := ⟨⟨y, rfl, hx.later hfin, hf⟩, hb, hl⟩
theorem far_slice {b off m c B : Nat} (h : Far (.slice (some ⟨b, off, none⟩) m c) B) (o m' c' : Nat) : Far (.slice (some ⟨b, o, none⟩) m' c') B := fun k hk => by
  rw [Bt.ownBlock_slice] at hk; cases hk; exact h b (Bt.ownBlock_slice _ _ _)
theorem rUint_bad (l : List Nat) : rUint (l, true) = ((l, true), 0) := by unfold rUint nxt; rw [if_pos rfl]
theorem rUint_no {l : List Nat} (h : num l = none) : rUint (l, false) = ((l, true), 0) := by unfold rUint nxt; rw [if_neg (by simp)]; simp only [h]
theorem rUint_yes {l : List Nat} {x n : Nat} (h : num l = some (x, n)) : rUint (l, false) = ((l.drop n, false), x) := by unfold rUint nxt; rw [if_neg (by simp)]; simp only [h]

set_option maxRecDepth 100000 in
set_option maxHeartbeats 2000000 in
theorem rruint_any (s : St) (x : Value) (w : World) (B : Nat) (hB : B ≤ w.heap.size) (h : RV w B s x) :
    Calls Tryz.prog 43 #[x] w fun r w' => ∃ y, r = .returned (.tuple #[y, .int .u64 (rUint s).2]) ∧ RV w' B (rUint s).1 y ∧ Below w.heap.size w w' := by
  obtain ⟨⟨v, rfl, hv, hf⟩, hb, hl⟩ := h
  have HF := Lib.hid hf
  obtain ⟨l, bad⟩ := s
  simp only at *
  obtain ⟨W0, hW0, hq, hr, hb0, hz0⟩ := two_boxes w v bad
  have HV := Lib.hid hv
  have HB := Lib.hid (hv.later hb0)
  have HQ := Lib.hid hq
  have HR := Lib.hid hr
  have HB0 := Lib.hid hb0
  have HBY := Lib.hid hb
  have HL := Lib.hid hl
  have hlt1 : w.heap.size + 1 < W0.heap.size := by omega
  have hlt0 : w.heap.size < W0.heap.size := by omega
  have hst : ∀ W a m, (store a v m).run Tryz.prog W = stored Tryz.prog W a v m := fun W a m => by
    obtain ⟨A, c, rfl⟩ := hv.form
    exact run_store _ W a _ m rfl
  cases bad with
  | true =>
    obtain ⟨X, N, hXN⟩ := numV_form l
    have HN : Hid (Calls Tryz.prog 81 #[v] W0 fun r w' => r = .returned (.tuple #[.int .u64 (X : Nat), .int .i64 (N : Nat)]) ∧ W0 = w') := Lib.hid (by have := number_any v l HBY.out W0 HB.out; rw [hXN] at this; exact this)
    clear hXN
    rw [rUint_bad]
    obtain ⟨c0, c1, f0, f1⟩ := HQ.out.cells
    obtain ⟨r0, r1, e0, e1⟩ := HR.out.cells
    clear hv hf hq hr hb0 hb hl hz0
    replace hW0 := Lib.hid hW0
    go_enter Tryz.func43, Tryz.ntmps43
    go_upto_region 1 with fail
    rw [← hW0.out]
    go_wp2_with fail
    refine HN.out.mono ?_
    rintro e w1 ⟨rfl, rfl⟩
    go_wp2_with fail
    refine bodyPost_ret (v := .tuple #[.agg #[v, .bool true], .int .u64 0]) (by simp [results, Tryz.results43, go_sem, r0, r1]) rfl ?_
    exact ⟨_, rfl, rv_end (s' := (l, true)) HV.out HF.out HBY.out HL.out (below_set2 (below_set2 (below_set2 HB0.out (Nat.le_refl _) _ _) (Nat.le_succ _) _ _) (Nat.le_succ _) _ _), (below_set2 (below_set2 (below_set2 HB0.out (Nat.le_refl _) _ _) (Nat.le_succ _) _ _) (Nat.le_succ _) _ _)⟩
  | false =>
    cases hnum : num l with
    | none =>
      have HN : Hid (Calls Tryz.prog 81 #[v] W0 fun r w' => r = .returned (.tuple #[.int .u64 (0), .int .i64 (0)]) ∧ W0 = w') := Lib.hid (by have := number_any v l HBY.out W0 HB.out; rw [hnum] at this; exact this)
      rw [rUint_no hnum]
      clear hnum
      obtain ⟨c0, c1, f0, f1⟩ := HQ.out.cells
      obtain ⟨r0, r1, e0, e1⟩ := HR.out.cells
      clear hv hf hq hr hb0 hb hl hz0
      replace hW0 := Lib.hid hW0
      go_enter Tryz.func43, Tryz.ntmps43
      go_upto_region 1 with fail
      rw [← hW0.out]
      go_wp2_with fail
      refine HN.out.mono ?_
      rintro e w1 ⟨rfl, rfl⟩
      go_wp2_with fail
      refine bodyPost_ret (v := .tuple #[.agg #[v, .bool true], .int .u64 0]) (by simp [results, Tryz.results43, go_sem, r0, r1]) rfl ?_
      exact ⟨_, rfl, rv_end (s' := (l, true)) HV.out HF.out HBY.out HL.out (below_set2 (below_set2 (below_set2 HB0.out (Nat.le_refl _) _ _) (Nat.le_succ _) _ _) (Nat.le_succ _) _ _), (below_set2 (below_set2 (below_set2 HB0.out (Nat.le_refl _) _ _) (Nat.le_succ _) _ _) (Nat.le_succ _) _ _)⟩
    | some p =>
      obtain ⟨X, N⟩ := p
      have HN : Hid (Calls Tryz.prog 81 #[v] W0 fun r w' => r = .returned (.tuple #[.int .u64 (X : Nat), .int .i64 (N : Nat)]) ∧ W0 = w') := Lib.hid (by have := number_any v l HBY.out W0 HB.out; rw [hnum] at this; exact this)
      rw [rUint_yes hnum]
      obtain ⟨-, -, -, hNl, hN0⟩ := num_some hb hnum
      clear hnum
      have hbd := byt_drop hb N
      have hld : (l.drop N).length ≤ 1099511627776 := by rw [List.length_drop]; omega
      have HBD := Lib.hid hbd
      have HLD := Lib.hid hld
      clear hbd hld
      have hne0 : ((N : Int) == 0) = false := beq_eq_false_iff_ne.2 (by omega)
      rcases hv with ⟨rfl, h2⟩ | ⟨b, off, cap, rfl, h2, h3, h4, h5⟩
      · rw [h2] at hNl; simp at hNl; omega
      · have hi0 : (0 : Int) ≤ (N : Int) := by omega
        have hi1 : (N : Int) ≤ (cap : Int) := by omega
        simp only [maxLen] at h3
        have hN2 : N ≤ cap := by omega
        clear h5
        by_cases hcn : cap = N
        · have HD := Lib.hid (brd_dropC HV.out hNl hcn)
          subst hcn
          obtain ⟨c0, c1, f0, f1⟩ := HQ.out.cells
          obtain ⟨r0, r1, e0, e1⟩ := HR.out.cells
          clear hf hq hr hb0 hb hl hz0
          replace hW0 := Lib.hid hW0
          go_enter Tryz.func43, Tryz.ntmps43
          go_upto_region 1 with fail
          rw [← hW0.out]
          go_wp2_with fail
          refine HN.out.mono ?_
          rintro e w1 ⟨rfl, rfl⟩
          go_wp2_with fail
          refine bodyPost_ret (v := .tuple #[.agg #[.slice (some ⟨b, off, none⟩) 0 0, .bool false], .int .u64 (X : Nat)]) (by simp [results, Tryz.results43, go_sem, r0, r1]) rfl ?_
          exact ⟨_, rfl, rv_end (s' := (l.drop cap, false)) HD.out (far_slice HF.out _ _ _) HBD.out HLD.out (below_set2 (below_set2 HB0.out (Nat.le_succ _) _ _) (Nat.le_succ _) _ _), (below_set2 (below_set2 HB0.out (Nat.le_succ _) _ _) (Nat.le_succ _) _ _)⟩
        · have HD := Lib.hid (brd_drop HV.out hNl)
          obtain ⟨c0, c1, f0, f1⟩ := HQ.out.cells
          obtain ⟨r0, r1, e0, e1⟩ := HR.out.cells
          clear hf hq hr hb0 hb hl hz0
          replace hW0 := Lib.hid hW0
          go_enter Tryz.func43, Tryz.ntmps43
          go_upto_region 1 with fail
          rw [← hW0.out]
          go_wp2_with fail
          refine HN.out.mono ?_
          rintro e w1 ⟨rfl, rfl⟩
          go_wp2_with fail
          refine bodyPost_ret (v := .tuple #[.agg #[.slice (some ⟨b, off + N, none⟩) (l.length - N) (cap - N), .bool false], .int .u64 (X : Nat)]) (by simp [results, Tryz.results43, go_sem, r0, r1]) rfl ?_
          exact ⟨_, rfl, rv_end (s' := (l.drop N, false)) HD.out (far_slice HF.out _ _ _) HBD.out HLD.out (below_set2 (below_set2 HB0.out (Nat.le_succ _) _ _) (Nat.le_succ _) _ _), (below_set2 (below_set2 HB0.out (Nat.le_succ _) _ _) (Nat.le_succ _) _ _)⟩

end Rd
end Go.Proofs.YtcbddebmmaflgaaGreatDoor
