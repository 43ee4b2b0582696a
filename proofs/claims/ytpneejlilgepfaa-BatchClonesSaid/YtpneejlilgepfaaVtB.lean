/- What the reference and the program compute of trees of values: Valid, Same, Few. No program in sight. -/
import Derived.Test.YtpneejlilgepfaaVtA
namespace Go.Proofs.Ytpneejlilgepfaa
open Go.RowKit
set_option linter.unusedVariables false
namespace Vt
open Nm (bitsW)

/-- Is a value valid at a depth? -/
def VT.valid (t : VT) : Nat → Bool := t.fold fun k n f s r d =>
  decide (0 ≤ k ∧ k ≤ 4) && (k == 1 || n == 0) && (k == 2 || bitsW f == 0) && (k == 3 || s.size == 0) && (k == 4 || r.length == 0) && (k != 4 || d != 0) && r.all (fun v => v (d - 1))

theorem valid_mk (k n : Int) (f : Nat) (s : ByteArray) (l : List VT) (d : Nat) : (VT.mk k n f s l).valid d =
    (decide (0 ≤ k ∧ k ≤ 4) && (k == 1 || n == 0) && (k == 2 || bitsW f == 0) && (k == 3 || s.size == 0) && (k == 4 || l.length == 0) && (k != 4 || d != 0) && l.all (fun t => t.valid (d - 1))) := by
  unfold VT.valid; rw [VT.fold]; simp [List.all_map, Function.comp_def]

theorem all_iff {α : Type} (l : List α) (p : α → Bool) : l.all p = true ↔ ∀ (i : Nat) (hi : i < l.length), p l[i] = true := by
  rw [List.all_eq_true]
  exact ⟨fun h i hi => h _ (List.getElem_mem hi), fun h x hx => by obtain ⟨i, hi, rfl⟩ := List.getElem_of_mem hx; exact h i hi⟩

def VT.same (t : VT) : VT → Bool := t.fold fun k n f s r t' => k == t'.k && n == t'.n && decide (s = t'.s) && bitsW f == bitsW t'.f && r.length == t'.l.length && (r.zip t'.l).all (fun p => p.1 p.2)

theorem same_mk (k n : Int) (f : Nat) (s : ByteArray) (l : List VT) (k' n' : Int) (f' : Nat) (s' : ByteArray) (l' : List VT) : (VT.mk k n f s l).same (.mk k' n' f' s' l') =
    (k == k' && n == n' && decide (s = s') && bitsW f == bitsW f' && l.length == l'.length && (l.zip l').all (fun p => p.1.same p.2)) := by
  unfold VT.same; rw [VT.fold]; simp [List.zip_map_left, List.all_map, Function.comp_def]

theorem zipall_iff (l l' : List VT) : (l.zip l').all (fun p => p.1.same p.2) = true ↔ ∀ (i : Nat) (hi : i < l.length) (hi' : i < l'.length), l[i].same l'[i] = true := by
  rw [all_iff]
  constructor
  · intro h i hi hi'
    have := h i (by simp; omega)
    rw [List.getElem_zip] at this
    exact this
  · intro h i hi
    have := h i (by simp at hi; omega) (by simp at hi; omega)
    rw [List.getElem_zip]
    exact this

theorem same_iff (k n : Int) (f : Nat) (s : ByteArray) (l : List VT) (k' n' : Int) (f' : Nat) (s' : ByteArray) (l' : List VT) : (VT.mk k n f s l).same (.mk k' n' f' s' l') = true ↔
    k = k' ∧ n = n' ∧ s = s' ∧ bitsW f = bitsW f' ∧ l.length = l'.length ∧ ∀ (i : Nat) (hi : i < l.length) (hi' : i < l'.length), l[i].same l'[i] = true := by
  rw [same_mk]
  simp only [Bool.and_eq_true, beq_iff_eq, decide_eq_true_iff, zipall_iff, and_assoc]

theorem same_refl (t : VT) : t.same t = true := by
  induction t using VT.ind with
  | _ k n f s l ih => exact (same_iff ..).2 ⟨rfl, rfl, rfl, rfl, rfl, fun i hi _ => ih i hi⟩

/-- Two trees that are the same have all in common but their numbers' bits. -/
theorem same_valid (a : VT) : ∀ (b : VT) (d : Nat), a.same b = true → a.valid d = b.valid d := by
  induction a using VT.ind with
  | _ k n f s l ih =>
    rintro ⟨k', n', f', s', l'⟩ d h
    obtain ⟨rfl, rfl, rfl, hf, hl, hL⟩ := (same_iff ..).1 h
    rw [valid_mk, valid_mk, hf, hl]
    have : l.all (fun t => t.valid (d - 1)) = l'.all (fun t => t.valid (d - 1)) := by
      rw [Bool.eq_iff_iff, all_iff, all_iff]
      constructor
      · intro h i hi
        rw [← ih i (by omega) _ (d - 1) (hL i (by omega) hi)]
        exact h i _
      · intro h i hi
        rw [ih i hi _ (d - 1) (hL i hi (by omega))]
        exact h i _
    rw [this]

theorem same_symm (a : VT) : ∀ b : VT, a.same b = true → b.same a = true := by
  induction a using VT.ind with
  | _ k n f s l ih =>
    rintro ⟨k', n', f', s', l'⟩ h
    obtain ⟨rfl, rfl, rfl, hf, hl, hL⟩ := (same_iff ..).1 h
    exact (same_iff ..).2 ⟨rfl, rfl, rfl, hf.symm, hl.symm, fun i hi hi' => ih i hi' _ (hL i hi' hi)⟩

theorem same_trans (a : VT) : ∀ b c : VT, a.same b = true → b.same c = true → a.same c = true := by
  induction a using VT.ind with
  | _ k n f s l ih =>
    rintro ⟨k', n', f', s', l'⟩ ⟨k'', n'', f'', s'', l''⟩ h1 h2
    obtain ⟨rfl, rfl, rfl, a4, a5, a6⟩ := (same_iff ..).1 h1
    obtain ⟨rfl, rfl, rfl, b4, b5, b6⟩ := (same_iff ..).1 h2
    exact (same_iff ..).2 ⟨rfl, rfl, rfl, a4.trans b4, a5.trans b5, fun i hi hi' => ih i hi _ _ (a6 i hi (by omega)) (b6 i (by omega) hi')⟩

/-- The reference's weight: it goes no further than a number. -/
def VT.weight (t : VT) : Int → Int := t.fold fun _ _ _ s r m => r.foldl (fun n wt => if n ≤ m then n + wt (m - n) else n) (1 + min (s.size : Int) 1000)
/-- .. of the elements of a list, begun at n. -/
def weightL (l : List VT) (n m : Int) : Int := l.foldl (fun n t => if n ≤ m then n + t.weight (m - n) else n) n
theorem weight_mk (k n : Int) (f : Nat) (s : ByteArray) (l : List VT) (m : Int) : (VT.mk k n f s l).weight m = weightL l (1 + min (s.size : Int) 1000) m := by
  unfold VT.weight weightL; rw [VT.fold]; simp [List.foldl_map]; rfl
theorem weightL_nil (n m : Int) : weightL [] n m = n := rfl
theorem weightL_cons (t : VT) (l : List VT) (n m : Int) : weightL (t :: l) n m = if n ≤ m then weightL l (n + t.weight (m - n)) m else n := by
  have stop : ∀ (l : List VT) (n m : Int), ¬ n ≤ m → weightL l n m = n := fun l => by
    induction l with
    | nil => intro n m _; rfl
    | cons t l ih =>
      intro n m h
      have e : weightL (t :: l) n m = weightL l (if n ≤ m then n + t.weight (m - n) else n) m := rfl
      rw [e, if_neg h]; exact ih n m h
  have e : weightL (t :: l) n m = weightL l (if n ≤ m then n + t.weight (m - n) else n) m := rfl
  rw [e]
  split
  · rfl
  · exact stop l n m (by assumption)

def VT.small (t : VT) : Nat → Bool := t.fold fun _ _ _ _ r d => d != 0 && r.all (fun v => v (d - 1))
theorem small_mk (k n : Int) (f : Nat) (s : ByteArray) (l : List VT) (d : Nat) : (VT.mk k n f s l).small d = (d != 0 && l.all (fun t => t.small (d - 1))) := by
  unfold VT.small; rw [VT.fold]; simp [List.all_map, Function.comp_def]

theorem weightL_ge (l : List VT) (ih : ∀ (i : Nat) (hi : i < l.length) (m : Int), 1 ≤ l[i].weight m) (n m : Int) : n ≤ weightL l n m := by
  induction l generalizing n with
  | nil => exact Int.le_refl _
  | cons t l h =>
    rw [weightL_cons]
    split
    · have h1 := h (fun i hi => ih (i + 1) (by simpa using hi)) (n + t.weight (m - n))
      have h2 := ih 0 (by simp) (m - n)
      simp only [List.getElem_cons_zero] at h2
      omega
    · exact Int.le_refl _
theorem weight_ge (t : VT) : ∀ m : Int, 1 ≤ t.weight m := by
  induction t using VT.ind with
  | _ k n f s l ih =>
    intro m
    rw [weight_mk]
    have := weightL_ge l ih (1 + min (s.size : Int) 1000) m
    omega
theorem weightL_ge' (l : List VT) (n m : Int) : n ≤ weightL l n m := weightL_ge l (fun _ _ => weight_ge _) n m

theorem weightL_le (l : List VT) (m : Int) (ih : ∀ (i : Nat) (hi : i < l.length) (m : Int), 0 ≤ m → l[i].weight m ≤ m + 1001) (n : Int) (hn : n ≤ m + 1001) : weightL l n m ≤ m + 1001 := by
  induction l generalizing n with
  | nil => exact hn
  | cons t l h =>
    rw [weightL_cons]
    split
    · rename_i hle
      have h2 := ih 0 (by simp) (m - n) (by omega)
      simp only [List.getElem_cons_zero] at h2
      exact h (fun i hi => ih (i + 1) (by simpa using hi)) _ (by omega)
    · exact hn
theorem weight_le (t : VT) : ∀ m : Int, 0 ≤ m → t.weight m ≤ m + 1001 := by
  induction t using VT.ind with
  | _ k n f s l ih =>
    intro m hm
    rw [weight_mk]
    exact weightL_le l m ih _ (by omega)

/-- A value is small. -/
def VT.few (t : VT) : Bool := decide (t.weight 900 ≤ 900) && t.small 20

/-- A list whose weight is not too great has few elements, each of a small weight. -/
theorem weightL_len (l : List VT) (n m : Int) (h : weightL l n m ≤ m) : n + l.length ≤ m ∧ ∀ (i : Nat) (hi : i < l.length), ∃ c : Int, n ≤ c ∧ c + l[i].weight (m - c) ≤ m := by
  induction l generalizing n with
  | nil => rw [weightL_nil] at h; exact ⟨by simpa using h, fun i hi => absurd hi (by simp)⟩
  | cons t l ih =>
    rw [weightL_cons] at h
    by_cases hn : n ≤ m
    · rw [if_pos hn] at h
      have h1 := weight_ge t (m - n)
      have h2 := weightL_ge' l (n + t.weight (m - n)) m
      obtain ⟨i1, i2⟩ := ih _ h
      refine ⟨by simp only [List.length_cons]; omega, fun i hi => ?_⟩
      cases i with
      | zero => exact ⟨n, by omega, by simp only [List.getElem_cons_zero]; omega⟩
      | succ j =>
        obtain ⟨c, c1, c2⟩ := i2 j (by simpa using hi)
        exact ⟨c, by omega, by simpa using c2⟩
    · rw [if_neg hn] at h; omega

/-- What a bound of the weight gives at every node: a short text and a short list. -/
def VT.Slim (m : Nat) (t : VT) : Prop := t.fold fun _ _ _ s r => s.size ≤ m ∧ r.length ≤ m ∧ ∀ p ∈ r, p
theorem slim_mk {m : Nat} {k n : Int} {f : Nat} {s : ByteArray} {l : List VT} : VT.Slim m (.mk k n f s l) ↔ s.size ≤ m ∧ l.length ≤ m ∧ ∀ (i : Nat) (hi : i < l.length), VT.Slim m l[i] := by
  unfold VT.Slim
  rw [VT.fold]
  simp only [List.length_map, List.mem_map, forall_exists_index, and_imp, forall_apply_eq_imp_iff₂]
  constructor
  · rintro ⟨h1, h2, h3⟩
    exact ⟨h1, h2, fun i hi => h3 _ (List.getElem_mem hi)⟩
  · rintro ⟨h1, h2, h3⟩
    exact ⟨h1, h2, fun x hx => by obtain ⟨i, hi, rfl⟩ := List.getElem_of_mem hx; exact h3 i hi⟩

theorem slim_of_weight (t : VT) (M : Nat) (hM : M < 1000) : ∀ m : Int, m ≤ M → t.weight m ≤ m → t.Slim M := by
  induction t using VT.ind with
  | _ k n f s l ih =>
    intro m hm h
    rw [weight_mk] at h
    obtain ⟨h1, h2⟩ := weightL_len l _ m h
    have h3 := weightL_ge' l (1 + min (s.size : Int) 1000) m
    refine slim_mk.2 ⟨by omega, by omega, fun i hi => ?_⟩
    obtain ⟨c, c1, c2⟩ := h2 i hi
    exact ih i hi (m - c) (by omega) (by omega)

theorem slim_of_few (t : VT) (h : t.few = true) : t.Slim 900 := by
  unfold VT.few at h
  rw [Bool.and_eq_true, decide_eq_true_iff] at h
  exact slim_of_weight t 900 (by omega) 900 (by omega) h.1
end Vt
end Go.Proofs.Ytpneejlilgepfaa
