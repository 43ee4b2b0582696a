/- Values and events that are read, as pure steps. No program in sight. -/
/- What a reader's walk asks of memory; what value.read leaves. -/
/- What is read is a form: values. No program in sight. -/
import Derived.Test.YtcbddebmmaflgaaGreatMqat
import Derived.Test.YtcbddebmmaflgaaGreatMqau
import Derived.Test.YtcbddebmmaflgaaGreatMqad
import Derived.Test.YtcbddebmmaflgaaGreatMqak
namespace Go.Proofs.YtcbddebmmaflgaaGreat
open Go.RowKit
set_option linter.unusedVariables false
set_option linter.unusedSimpArgs false
namespace Rd
open _root_.Go.Proofs.YtcbddebmmaflgaaGreat.Nm (bitsW ofW okW)
open Bt (ubytes sb)
open Vt (VT)
open Ev (EV fieldsOf)

/-- n readings, one behind another. -/
def rep {α : Type} (p : St → Option (St × α)) : Nat → St → Option (St × List α)
  | 0, s => some (s, [])
  | n + 1, s => match p s with
    | none => none
    | some (s1, t) => match rep p n s1 with
      | none => none
      | some (s2, ts) => some (s2, t :: ts)
theorem rep_some {α : Type} {p : St → Option (St × α)} {n : Nat} {s s1 : St} {t : α} (h : p s = some (s1, t)) : rep p (n + 1) s = (rep p n s1).map fun q => (q.1, t :: q.2) := by
  rw [rep, h]
  cases h2 : rep p n s1 with
  | none => simp [h2]
  | some q => obtain ⟨a, b⟩ := q; simp [h2]
theorem rep_none {α : Type} {p : St → Option (St × α)} {n : Nat} {s : St} (h : p s = none) : rep p (n + 1) s = none := by
  rw [rep, h]
/-- Bytes as a number, the highest first. -/
def beN (l : List Nat) : Nat := l.foldl (fun a b => a * 256 + b) 0

/-- A value's reading. -/
def pv : Nat → St → Option (St × VT)
  | left, s =>
    let q := rUint s
    if q.1.2 = true ∨ 4 < q.2 then none
    else if q.2 = 0 then some (q.1, .mk 0 0 0 ⟨#[]⟩ [])
    else if q.2 = 1 then (let z := rUint q.1; if z.1.2 = true then none else some (z.1, .mk 1 (unzz z.2) 0 ⟨#[]⟩ []))
    else if q.2 = 2 then (let z := rTake q.1 8; if z.1.2 = true ∨ okW (beN z.2) = false then none else some (z.1, .mk 2 0 (ofW (beN z.2)) ⟨#[]⟩ []))
    else if q.2 = 3 then (let z := rBytes q.1; if z.1.2 = true then none else some (z.1, .mk 3 0 0 (strOf z.2) []))
    else match left with
      | 0 => none
      | left + 1 => let z := rUint q.1; match rep (pv left) z.2 z.1 with
        | none => none
        | some (s3, ts) => if s3.2 = true then none else some (s3, .mk 4 0 0 ⟨#[]⟩ ts)

theorem pv_eq (left : Nat) (s : St) : pv left s = (if (rUint s).1.2 = true ∨ 4 < (rUint s).2 then none
    else if (rUint s).2 = 0 then some ((rUint s).1, .mk 0 0 0 ⟨#[]⟩ [])
    else if (rUint s).2 = 1 then (if (rUint (rUint s).1).1.2 = true then none else some ((rUint (rUint s).1).1, .mk 1 (unzz (rUint (rUint s).1).2) 0 ⟨#[]⟩ []))
    else if (rUint s).2 = 2 then (if (rTake (rUint s).1 8).1.2 = true ∨ okW (beN (rTake (rUint s).1 8).2) = false then none else some ((rTake (rUint s).1 8).1, .mk 2 0 (ofW (beN (rTake (rUint s).1 8).2)) ⟨#[]⟩ []))
    else if (rUint s).2 = 3 then (if (rBytes (rUint s).1).1.2 = true then none else some ((rBytes (rUint s).1).1, .mk 3 0 0 (strOf (rBytes (rUint s).1).2) []))
    else match left with
      | 0 => none
      | left + 1 => match rep (pv left) (rUint (rUint s).1).2 (rUint (rUint s).1).1 with
        | none => none
        | some (s3, ts) => if s3.2 = true then none else some (s3, .mk 4 0 0 ⟨#[]⟩ ts)) := by
  cases left <;> rw [pv]

theorem rUint_le (s : St) : (rUint s).1.1.length ≤ s.1.length := by
  unfold rUint; split
  · simp only [List.length_drop]; omega
  · exact Nat.le_refl _
theorem rTake_le (s : St) (n : Nat) : (rTake s n).1.1.length ≤ s.1.length := by
  unfold rTake; split
  · simp only [List.length_drop]; omega
  · exact Nat.le_refl _
theorem rBytes_le (s : St) : (rBytes s).1.1.length ≤ s.1.length := by
  unfold rBytes; split
  · split
    · simp only [List.length_drop]; omega
    · exact Nat.le_refl _
  · exact Nat.le_refl _
theorem rUint_lt {s : St} (hb : Byt s.1) (h : (rUint s).1.2 = false) : (rUint s).1.1.length < s.1.length := by
  unfold rUint at h ⊢
  split at h
  · rename_i x n hn
    simp only [hn, List.length_drop]
    have h1 : s.2 = false := (nxt_le hb hn).1
    unfold nxt at hn
    rw [h1, if_neg (by simp)] at hn
    obtain ⟨-, -, -, h4, h5⟩ := num_some hb hn
    omega
  · cases h
theorem rep_le {α : Type} {p : St → Option (St × α)} (hp : ∀ s s' t, p s = some (s', t) → s'.1.length ≤ s.1.length) : ∀ (n : Nat) (s s' : St) (ts : List α), rep p n s = some (s', ts) → s'.1.length ≤ s.1.length := by
  intro n
  induction n with
  | zero => intro s s' ts h; rw [rep] at h; injection h with h; injection h with h _; rw [h]; exact Nat.le_refl _
  | succ n ih =>
    intro s s' ts h
    rw [rep] at h
    split at h
    · cases h
    · rename_i s1 t h1
      split at h
      · cases h
      · rename_i s2 ts2 h2
        injection h with h; injection h with h _
        have := hp _ _ _ h1
        have := ih _ _ _ h2
        rw [← h]; omega
theorem pv_rest (left : Nat) : ∀ (s s' : St) (t : VT), pv left s = some (s', t) → (rUint s).1.2 = false ∧ s'.1.length ≤ (rUint s).1.1.length ∧ s'.2 = false := by
  induction left with
  | zero =>
    intro s s' t h
    rw [pv_eq] at h
    split at h
    · cases h
    · rename_i h0
      have h0' : (rUint s).1.2 = false := by cases hh : (rUint s).1.2 with
        | true => exact absurd (.inl hh) h0
        | false => rfl
      refine ⟨h0', ?_⟩
      split at h
      · injection h with h; injection h with h _; rw [← h]; exact ⟨Nat.le_refl _, h0'⟩
      · split at h
        · split at h
          · cases h
          · rename_i h9; injection h with h; injection h with h _; rw [← h]; exact ⟨rUint_le _, by simpa using h9⟩
        · split at h
          · split at h
            · cases h
            · rename_i h9; injection h with h; injection h with h _; rw [← h]; exact ⟨rTake_le _ _, by simp at h9; exact h9.1⟩
          · split at h
            · split at h
              · cases h
              · rename_i h9; injection h with h; injection h with h _; rw [← h]; exact ⟨rBytes_le _, by simpa using h9⟩
            · cases h
  | succ left ih =>
    intro s s' t h
    rw [pv_eq] at h
    split at h
    · cases h
    · rename_i h0
      have h0' : (rUint s).1.2 = false := by cases hh : (rUint s).1.2 with
        | true => exact absurd (.inl hh) h0
        | false => rfl
      refine ⟨h0', ?_⟩
      split at h
      · injection h with h; injection h with h _; rw [← h]; exact ⟨Nat.le_refl _, h0'⟩
      · split at h
        · split at h
          · cases h
          · rename_i h9; injection h with h; injection h with h _; rw [← h]; exact ⟨rUint_le _, by simpa using h9⟩
        · split at h
          · split at h
            · cases h
            · rename_i h9; injection h with h; injection h with h _; rw [← h]; exact ⟨rTake_le _ _, by simp at h9; exact h9.1⟩
          · split at h
            · split at h
              · cases h
              · rename_i h9; injection h with h; injection h with h _; rw [← h]; exact ⟨rBytes_le _, by simpa using h9⟩
            · cases h3 : rep (pv left) (rUint (rUint s).1).2 (rUint (rUint s).1).1 with
              | none => simp only [h3] at h; cases h
              | some q =>
                obtain ⟨s3, ts⟩ := q
                simp only [h3] at h
                cases h9 : s3.2 with
                | true => rw [if_pos h9] at h; cases h
                | false =>
                  rw [if_neg (by simp [h9])] at h
                  injection h with h; injection h with h _
                  have := rep_le (fun s s' t hh => Nat.le_trans (ih s s' t hh).2.1 (rUint_le s)) _ _ _ _ h3
                  have := rUint_le (rUint s).1
                  rw [← h]
                  exact ⟨by omega, h9⟩
theorem pv_lt {left : Nat} {s s' : St} {t : VT} (hb : Byt s.1) (h : pv left s = some (s', t)) : s'.1.length < s.1.length := by
  obtain ⟨h1, h2, -⟩ := pv_rest left s s' t h
  have := rUint_lt hb h1
  omega
/-- A list that is read, after some of its values. -/
theorem rep_acc {α : Type} {p : St → Option (St × α)} {n j : Nat} {s sj sj' : St} {acc : List α} {t : α} (h : rep p n s = (rep p (n - j) sj).map fun q => (q.1, acc ++ q.2)) (hj : j < n) (hp : p sj = some (sj', t)) : rep p n s = (rep p (n - (j + 1)) sj').map fun q => (q.1, (acc ++ [t]) ++ q.2) := by
  rw [h, show n - j = (n - (j + 1)) + 1 by omega, rep_some hp]
  cases rep p (n - (j + 1)) sj' <;> simp
theorem rep_stop {α : Type} {p : St → Option (St × α)} {n j : Nat} {s sj : St} {acc : List α} (h : rep p n s = (rep p (n - j) sj).map fun q => (q.1, acc ++ q.2)) (hj : j < n) (hp : p sj = none) : rep p n s = none := by
  rw [h, show n - j = (n - (j + 1)) + 1 by omega, rep_none hp]; rfl
theorem rep_end {α : Type} {p : St → Option (St × α)} {n : Nat} {s sj : St} {acc : List α} (h : rep p n s = (rep p (n - n) sj).map fun q => (q.1, acc ++ q.2)) : rep p n s = some (sj, acc) := by
  rw [h, Nat.sub_self, rep]; simp
end Rd
end Go.Proofs.YtcbddebmmaflgaaGreat
namespace Go.Proofs.YtcbddebmmaflgaaGreat
open Go.RowKit
set_option linter.unusedVariables false
set_option linter.unusedSimpArgs false
namespace Rd
open Vt (VT Rep BoxAt below_drew put5 KidsAt HeadOk)
open Cn (VsAt VNew)
open Cm (OnlyAt rowOf)

theorem box_only {w w' : World} {g b : Nat} {k n : Int} {f : Nat} {s : ByteArray} {A : Option Addr} {m c : Nat} (h : BoxAt w b k n f s A m c) (ho : OnlyAt w w' g none) (hg : b ≠ g) : BoxAt w' b k n f s A m c :=
  (ho.block b h.lt hg (by simp)).trans h
theorem only_set {w W : World} {g b o : Nat} (h : OnlyAt w W g none) (hb : w.heap.size ≤ b) (v : Value) : OnlyAt w (W.setCell ⟨b, o, none⟩ v) g none :=
  ⟨h.os, h.tape, h.output, by simpa [World.setCell] using h.size, fun x hx h1 h2 => (Below.heap_setCell W ⟨b, o, none⟩ v x (by simp only []; omega)).trans (h.block x hx h1 h2)⟩
theorem only_alloc {w W : World} {g : Nat} (h : OnlyAt w W g none) (o : Obj) : OnlyAt w (W.alloc o) g none :=
  ⟨h.os, h.tape, h.output, by rw [World.size_alloc]; have := h.size; omega, fun x hx h1 h2 => (heap_alloc_old W o (Nat.lt_of_lt_of_le hx h.size)).trans (h.block x hx h1 h2)⟩
theorem only_put5 {w W : World} {g b o : Nat} (h : OnlyAt w W g none) (hb : w.heap.size ≤ b) (d0 d1 d2 d3 d4 : Value) : OnlyAt w (put5 W b o d0 d1 d2 d3 d4) g none := by
  unfold put5
  exact only_set (only_set (only_set (only_set (only_set h hb _) hb _) hb _) hb _) hb _
theorem rs_set {W : World} {g b o : Nat} {s : St} (h : RS W g s) (hb : g < b) (v : Value) : RS (W.setCell ⟨b, o, none⟩ v) g s :=
  h.frame (by simp [World.setCell]) fun x hx => Below.heap_setCell W ⟨b, o, none⟩ v x (by simp only []; omega)
theorem rs_put5 {W : World} {g b o : Nat} {s : St} (h : RS W g s) (hb : g < b) (d0 d1 d2 d3 d4 : Value) : RS (put5 W b o d0 d1 d2 d3 d4) g s := by
  unfold put5
  exact rs_set (rs_set (rs_set (rs_set (rs_set h hb _) hb _) hb _) hb _) hb _
theorem rs_alloc {W : World} {g : Nat} {s : St} (h : RS W g s) (o : Obj) : RS (W.alloc o) g s := h.later ((Below.refl _ _).alloc (Nat.le_refl _) _)
theorem vs_only {W W' : World} {base g : Nat} {A : Option Addr} {cap n : Nat} {ts : List VT} (h : VsAt W base A cap n ts) (ho : OnlyAt W W' g none) (hg : g < base) : VsAt W' base A cap n ts := by
  obtain ⟨h0, xs, h1, h3⟩ := h
  refine ⟨h0, xs, ⟨h1.1, ?_⟩, fun i hi => ?_⟩
  · rcases h1.2 with h | ⟨r, cp, cur, q1, q2, q3, q4⟩
    · exact .inl h
    · exact .inr ⟨r, cp, cur, q1, q2, (ho.block r (Array.getElem?_eq_some_iff.1 q3).1 (by omega) (by simp)).trans q3, q4⟩
  · obtain ⟨lo, hi', k, n, f, s, A, m, c, k0, k1, k2, k3, k4⟩ := h3 i hi
    refine ⟨lo, hi', k, n, f, s, A, m, c, k0, Nat.le_trans k1 ho.size, k2.keep fun b o hb1 hb2 => ?_, k3, k4⟩
    exact World.cell?_of_block (a := ⟨b, o, none⟩) (ho.block b (by omega) (by omega) (by simp))

/-- The zero value, and a value's five cells. -/
def zeroC : Value := .agg #[.int .i64 0, .int .i64 0, .float .f64 0, .string ⟨#[]⟩, .slice none 0 0]
def fiveC (k n : Int) (f : Nat) (s : ByteArray) (A : Option Addr) (m c : Nat) : Value := .agg #[.int .i64 k, .int .i64 n, .float .f64 f, .string s, .slice A m c]
/-- What reading a value leaves. -/
def VRead (left : Nat) (s : St) (w : World) (g : Nat) (r : Ending) (w' : World) : Prop := match pv left s with
  | some (s', t) => ∃ k n f str A m c, r = .returned (.tuple #[fiveC k n f str A m c, .bool true]) ∧ Rep w' w.heap.size w'.heap.size t (fiveC k n f str A m c) ∧ RS w' g s' ∧ OnlyAt w w' g none
  | none => r = .returned (.tuple #[zeroC, .bool false]) ∧ (∃ s', RS w' g s') ∧ OnlyAt w w' g none
theorem vread_no {left : Nat} {s s' : St} {w w' : World} {g : Nat} (h : pv left s = none) (hr : RS w' g s') (ho : OnlyAt w w' g none) : VRead left s w g (.returned (.tuple #[.agg #[.int .i64 0, .int .i64 0, .float .f64 0, .string ⟨#[]⟩, .slice none 0 0], .bool false])) w' := by
  unfold VRead; rw [h]; exact ⟨rfl, ⟨s', hr⟩, ho⟩
theorem vread_yes {left : Nat} {s s' : St} {w w' : World} {g : Nat} {t : VT} {k n : Int} {f : Nat} {str : ByteArray} {A : Option Addr} {m c : Nat} (h : pv left s = some (s', t)) (hrep : Rep w' w.heap.size w'.heap.size t (.agg #[.int .i64 k, .int .i64 n, .float .f64 f, .string str, .slice A m c])) (hr : RS w' g s') (ho : OnlyAt w w' g none) :
    VRead left s w g (.returned (.tuple #[.agg #[.int .i64 k, .int .i64 n, .float .f64 f, .string str, .slice A m c], .bool true])) w' := by
  unfold VRead; rw [h]; exact ⟨k, n, f, str, A, m, c, rfl, hrep, hr, ho⟩
theorem rep_leaf {w : World} {lo hi : Nat} {k n : Int} {f : Nat} {s : ByteArray} (h : HeadOk k n f s 0) : Rep w lo hi (.mk k n f s []) (.agg #[.int .i64 k, .int .i64 n, .float .f64 f, .string s, .slice none 0 0]) :=
  Rep.close (A := none) (cap := 0) h (Nat.le_refl _) ⟨fun hp => absurd hp (by simp)⟩
end Rd
end Go.Proofs.YtcbddebmmaflgaaGreat
namespace Go.Proofs.YtcbddebmmaflgaaGreat
open Go.RowKit
set_option linter.unusedVariables false
set_option linter.unusedSimpArgs false
namespace Rd
open _root_.Go.Proofs.YtcbddebmmaflgaaGreat.Nm (bitsW ofW okW)
open Bt (ubytes sb sb_len)
open Vt (VT)
open Pf (sform zz be8 form_mk fine_mk)

theorem byt_map {l : List Nat} (h : Byt l) : (l.map UInt8.ofNat).map (·.toNat) = l := by
  rw [List.map_map]
  refine (List.map_congr_left fun b hb => ?_).trans (List.map_id l)
  simp only [Function.comp]
  rw [UInt8.toNat_ofNat']
  have := h b hb
  show b % 256 = b
  omega
theorem sb_strOf {l : List Nat} (h : Byt l) : sb (strOf l) = l := by
  show (((l.map UInt8.ofNat).toArray).toList).map (·.toNat) = l
  exact byt_map h
theorem strOf_size (l : List Nat) : (strOf l).size = l.length := by
  show ((l.map UInt8.ofNat).toArray).size = l.length
  simp
theorem rUint_form {s : St} (hb : Byt s.1) (h : (rUint s).1.2 = false) : s.2 = false ∧ s.1 = ubytes 10 (rUint s).2 ++ (rUint s).1.1 ∧ (rUint s).2 < 18446744073709551616 := by
  unfold rUint at h ⊢
  split at h
  · rename_i x n hn
    simp only [hn]
    have h1 : s.2 = false := (nxt_le hb hn).1
    have hn' := hn
    unfold nxt at hn'
    rw [h1, if_neg (by simp)] at hn'
    obtain ⟨h2, -, h4, -, -⟩ := num_some hb hn'
    exact ⟨h1, h4, h2⟩
  · cases h
theorem rTake_form {s : St} {n : Nat} (h : (rTake s n).1.2 = false) : s.2 = false ∧ s.1 = (rTake s n).2 ++ (rTake s n).1.1 ∧ (rTake s n).2.length = n := by
  unfold rTake at h ⊢
  split at h
  · rename_i hc
    rw [if_pos hc]
    exact ⟨hc.1, (List.take_append_drop n s.1).symm, by rw [List.length_take]; omega⟩
  · cases h
theorem rBytes_eq {s : St} {x n : Nat} (hn : nxt s = some (x, n)) : rBytes s = if x ≤ s.1.length - n then ((s.1.drop (n + x), false), (s.1.drop n).take x) else ((s.1, true), []) := by unfold rBytes; rw [hn]
theorem rBytes_no {s : St} (hn : nxt s = none) : rBytes s = ((s.1, true), []) := by unfold rBytes; rw [hn]
theorem rBytes_form {s : St} (hb : Byt s.1) (h : (rBytes s).1.2 = false) : s.2 = false ∧ s.1 = sform (strOf (rBytes s).2) ++ (rBytes s).1.1 ∧ (rBytes s).2.length < 18446744073709551616 := by
  cases hn : nxt s with
  | none => rw [rBytes_no hn] at h; cases h
  | some p =>
    obtain ⟨x, n⟩ := p
    rw [rBytes_eq hn] at h ⊢
    have h1 : s.2 = false := (nxt_le hb hn).1
    have hn' := hn
    unfold nxt at hn'
    rw [h1, if_neg (by simp)] at hn'
    obtain ⟨h2, -, h4, h5, -⟩ := num_some hb hn'
    by_cases hx : x ≤ s.1.length - n
    · rw [if_pos hx]
      have hlen : ((s.1.drop n).take x).length = x := by rw [List.length_take, List.length_drop]; omega
      refine ⟨h1, ?_, by rw [hlen]; exact h2⟩
      unfold sform
      rw [strOf_size, sb_strOf (byt_take (byt_drop hb _) _), hlen, List.append_assoc, ← List.drop_drop, List.take_append_drop]
      exact h4
    · rw [if_neg hx] at h; cases h

theorem zz_unzz (x : Nat) (h : x < 18446744073709551616) : zz (unzz x) = x ∧ -9223372036854775808 ≤ unzz x ∧ unzz x ≤ 9223372036854775807 := by
  unfold zz unzz
  split
  · rename_i h0
    rw [if_pos (by omega)]
    omega
  · rename_i h0
    rw [if_neg (by omega)]
    omega
theorem be8_beN {l : List Nat} (hb : Byt l) (hl : l.length = 8) : be8 (beN l) = l ∧ beN l < 18446744073709551616 := by
  match l, hl with
  | [a, b, c, d, e, f, g, h], _ =>
    have ha := hb a (by simp); have hb' := hb b (by simp); have hc := hb c (by simp); have hd := hb d (by simp)
    have he := hb e (by simp); have hf := hb f (by simp); have hg := hb g (by simp); have hh := hb h (by simp)
    simp only [beN, List.foldl_cons, List.foldl_nil, be8, List.cons.injEq, and_true]
    omega
theorem bits_of {b : Nat} (h : okW b = true) : bitsW (ofW b) = b := by
  unfold ofW
  rw [if_pos h]
  unfold okW at h
  unfold bitsW
  split
  · rename_i hn
    rw [hn] at h
    simp at h
    exact h.symm
  · rfl
theorem rep_form {α : Type} {p : St → Option (St × α)} {F : α → List Nat} {Q : α → Prop} (hp : ∀ s s' t, Byt s.1 → p s = some (s', t) → s.2 = false ∧ s'.2 = false ∧ s.1 = F t ++ s'.1 ∧ Q t) :
    ∀ (n : Nat) (s s' : St) (ts : List α), Byt s.1 → s.2 = false → rep p n s = some (s', ts) → s'.2 = false ∧ s.1 = (ts.map F).flatten ++ s'.1 ∧ ts.length = n ∧ (∀ t ∈ ts, Q t) := by
  intro n
  induction n with
  | zero =>
    intro s s' ts hb h2 h
    rw [rep] at h; injection h with h; injection h with h h'
    subst h h'
    exact ⟨h2, by simp, rfl, fun t ht => absurd ht (by simp)⟩
  | succ n ih =>
    intro s s' ts hb h2 h
    rw [rep] at h
    split at h
    · cases h
    · rename_i s1 t h1
      split at h
      · cases h
      · rename_i s2 ts2 h3
        injection h with h; injection h with h h'
        subst h h'
        obtain ⟨a1, a2, a3, a4⟩ := hp _ _ _ hb h1
        obtain ⟨b1, b2, b3, b4⟩ := ih s1 _ _ (fun b hb' => hb b (by rw [a3]; exact List.mem_append_right _ hb')) a2 h3
        refine ⟨b1, by rw [List.map_cons, List.flatten_cons, List.append_assoc, ← b2]; exact a3, by rw [List.length_cons, b3], fun x hx => ?_⟩
        rcases List.mem_cons.1 hx with rfl | hx
        · exact a4
        · exact b4 x hx

theorem bool_of {b : Bool} (h : ¬ b = true) : b = false := by simpa using h
theorem bits0 : bitsW 0 = 0 := by decide
theorem sz0 : (⟨#[]⟩ : ByteArray).size = 0 := rfl
/-- A value that is read is valid, and its form was there. -/
theorem pv_form (d : Nat) : ∀ (s s' : St) (t : VT), Byt s.1 → pv d s = some (s', t) → s.2 = false ∧ s'.2 = false ∧ s.1 = Pf.VT.form t ++ s'.1 ∧ (t.valid d = true ∧ Pf.VT.fine t) := by
  have key : ∀ (d : Nat) (s s' : St) (t : VT), Byt s.1 → (∀ d', d = d' + 1 → ∀ (s s' : St) (t : VT), Byt s.1 → pv d' s = some (s', t) → s.2 = false ∧ s'.2 = false ∧ s.1 = Pf.VT.form t ++ s'.1 ∧ (t.valid d' = true ∧ Pf.VT.fine t)) → pv d s = some (s', t) →
      s.2 = false ∧ s'.2 = false ∧ s.1 = Pf.VT.form t ++ s'.1 ∧ (t.valid d = true ∧ Pf.VT.fine t) := by
    intro d s s' t hb ih h
    rw [pv_eq] at h
    split at h
    · cases h
    · rename_i h0
      have h0' : (rUint s).1.2 = false := bool_of fun hh => h0 (.inl hh)
      obtain ⟨e1, e2, e3⟩ := rUint_form hb h0'
      have hb1 : Byt (rUint s).1.1 := fun b hb' => hb b (by rw [e2]; exact List.mem_append_right _ hb')
      generalize rUint s = q at *
      obtain ⟨s1, k⟩ := q
      simp only at *
      refine ⟨e1, ?_⟩
      split at h
      · rename_i hk
        injection h with h; injection h with h h'
        subst h h' hk
        refine ⟨h0', ?_, ?_, ?_⟩
        · rw [form_mk]; simpa using e2
        · rw [Vt.valid_mk, bits0, sz0]; simp
        · rw [fine_mk, sz0]; simp
      · split at h
        · rename_i hk
          split at h
          · cases h
          · rename_i h9
            injection h with h; injection h with h h'
            obtain ⟨f1, f2, f3⟩ := rUint_form hb1 (bool_of h9)
            obtain ⟨z1, z2, z3⟩ := zz_unzz _ f3
            subst h h' hk
            refine ⟨bool_of h9, ?_, ?_, ?_⟩
            · rw [form_mk, if_pos rfl, z1, List.append_assoc, ← f2]; exact e2
            · rw [Vt.valid_mk, bits0, sz0]; simp
            · rw [fine_mk, sz0]; exact ⟨⟨z2, z3, by decide, by decide, by decide⟩, fun t ht => absurd ht (by simp)⟩
        · split at h
          · rename_i hk
            split at h
            · cases h
            · rename_i h9
              injection h with h; injection h with h h'
              have h9a : (rTake s1 8).1.2 = false := bool_of fun hh => h9 (.inl hh)
              have h9b : okW (beN (rTake s1 8).2) = true := by
                cases hh : okW (beN (rTake s1 8).2) with
                | true => rfl
                | false => exact absurd (.inr hh) h9
              obtain ⟨f1, f2, f3⟩ := rTake_form h9a
              have hb2 : Byt (rTake s1 8).2 := fun b hb' => hb1 b (by rw [f2]; exact List.mem_append_left _ hb')
              obtain ⟨g1, g2⟩ := be8_beN hb2 f3
              subst h h' hk
              refine ⟨h9a, ?_, ?_, ?_⟩
              · rw [form_mk, if_neg (by decide), if_pos rfl, bits_of h9b, g1, List.append_assoc, ← f2]; exact e2
              · rw [Vt.valid_mk, sz0]; simp
              · rw [fine_mk]
                refine ⟨⟨by decide, by decide, ?_, by decide, by simp⟩, fun t ht => absurd ht (by simp)⟩
                unfold ofW
                split <;> omega
          · split at h
            · rename_i hk
              split at h
              · cases h
              · rename_i h9
                injection h with h; injection h with h h'
                obtain ⟨f1, f2, f3⟩ := rBytes_form hb1 (bool_of h9)
                subst h h' hk
                refine ⟨bool_of h9, ?_, ?_, ?_⟩
                · rw [form_mk, if_neg (by decide), if_neg (by decide), if_pos rfl, List.append_assoc, ← f2]; exact e2
                · rw [Vt.valid_mk, bits0]; simp
                · rw [fine_mk]
                  exact ⟨⟨by decide, by decide, by decide, by rw [strOf_size]; exact f3, by simp⟩, fun t ht => absurd ht (by simp)⟩
            · have hk4 : k = 4 := by omega
              cases d with
              | zero => cases h
              | succ d =>
                simp only at h
                cases h3 : rep (pv d) (rUint s1).2 (rUint s1).1 with
                | none => simp only [h3] at h; cases h
                | some q3 =>
                  obtain ⟨s3, ts⟩ := q3
                  simp only [h3] at h
                  cases h9 : s3.2 with
                  | true => rw [if_pos h9] at h; cases h
                  | false =>
                    rw [if_neg (by simp [h9])] at h
                    injection h with h; injection h with h h'
                    cases hbad : (rUint s1).1.2 with
                    | true =>
                      exfalso
                      have hz : rUint s1 = ((s1.1, true), 0) := by
                        cases hn : nxt s1 with
                        | none => unfold rUint; rw [hn]
                        | some p => unfold rUint at hbad; rw [hn] at hbad; cases hbad
                      rw [hz, rep] at h3
                      injection h3 with h3; injection h3 with h3 _
                      rw [← h3] at h9; cases h9
                    | false =>
                      obtain ⟨f1, f2, f3⟩ := rUint_form hb1 hbad
                      have hb2 : Byt (rUint s1).1.1 := fun b hb' => hb1 b (by rw [f2]; exact List.mem_append_right _ hb')
                      obtain ⟨g1, g2, g3, g4⟩ := rep_form (F := Pf.VT.form) (Q := fun t => t.valid d = true ∧ Pf.VT.fine t) (ih d rfl) _ _ _ _ hb2 hbad h3
                      subst h h' hk4
                      refine ⟨g1, ?_, ?_, ?_⟩
                      · rw [form_mk, if_neg (by decide), if_neg (by decide), if_neg (by decide), if_pos rfl, g3, List.append_assoc, List.append_assoc, ← g2, ← f2]; exact e2
                      · rw [Vt.valid_mk, bits0, sz0]
                        have := List.all_eq_true.2 fun t ht => (g4 t ht).1
                        simp [this]
                      · rw [fine_mk]
                        exact ⟨⟨by decide, by decide, by decide, by decide, by rw [g3]; exact f3⟩, fun t ht => (g4 t ht).2⟩
  induction d with
  | zero => exact fun s s' t hb h => key 0 s s' t hb (fun d' h => by omega) h
  | succ d ih => exact fun s s' t hb h => key (d + 1) s s' t hb (fun d' h => by obtain rfl : d = d' := by omega
                                                                                exact ih) h
def rText (s : St) : St × ByteArray := ((rBytes s).1, strOf (rBytes s).2)
theorem rText_size {s : St} (hb : Byt s.1) (hl : s.1.length ≤ 1099511627776) : (rText s).2.size ≤ 1099511627776 := by
  show (strOf (rBytes s).2).size ≤ _
  rw [strOf_size]
  unfold rBytes
  split
  · split
    · simp only [List.length_take, List.length_drop]; omega
    · simp
  · simp
theorem rUint_val {s : St} (hb : Byt s.1) : (rUint s).2 < 18446744073709551616 := by
  unfold rUint
  split
  · rename_i x n hn; exact (nxt_le hb hn).2.2
  · show (0 : Nat) < _; omega
end Rd
end Go.Proofs.YtcbddebmmaflgaaGreat
