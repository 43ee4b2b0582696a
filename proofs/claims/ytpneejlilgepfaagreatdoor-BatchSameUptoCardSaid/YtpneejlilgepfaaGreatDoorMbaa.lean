/- Plain facts on IEEE doubles: rounding is monotone, exact where nothing is dropped. No program in sight. -/
import Derived.Laws.FloatArith
namespace Go.Proofs.YtpneejlilgepfaaGreatDoor.Fm
open Ieee

/-- n / g rounded to the nearest whole number, ties to even. -/
def rne (n g : Nat) : Nat := n / g + (decide (g < 2 * (n % g)) || (decide (g = 2 * (n % g)) && decide (n / g % 2 = 1))).toNat

theorem cut_even (neg : Bool) (n drop : Nat) : Toward.even.cut neg n drop = rne n (2 ^ drop) := by
  unfold Toward.cut rne
  by_cases h : drop ≤ n.log2 + 2
  · rw [Nat.min_eq_left h, Nat.one_shiftLeft]
    have b1 : ∀ x y : Nat, (x == y) = decide (x = y) := fun x y => by rw [Bool.eq_iff_iff]; simp
    simp [b1]
  · have h' : n.log2 + 2 ≤ drop := by omega
    rw [Nat.min_eq_right h', Nat.one_shiftLeft]
    have h1 : n < 2 ^ (n.log2 + 1) := Nat.lt_log2_self
    have h2 : 2 ^ (n.log2 + 2) = 2 * 2 ^ (n.log2 + 1) := by rw [Nat.pow_succ 2 (n.log2 + 1)]; omega
    have h3 : 2 ^ (n.log2 + 2) ≤ 2 ^ drop := Nat.pow_le_pow_right (by omega) h'
    have e1 : n / 2 ^ (n.log2 + 2) = 0 := Nat.div_eq_of_lt (by omega)
    have e2 : n % 2 ^ (n.log2 + 2) = n := Nat.mod_eq_of_lt (by omega)
    have e3 : n / 2 ^ drop = 0 := Nat.div_eq_of_lt (by omega)
    have e4 : n % 2 ^ drop = n := Nat.mod_eq_of_lt (by omega)
    have d1 : decide (2 ^ (n.log2 + 2) < 2 * n) = false := by simp; omega
    have d2 : decide (2 ^ drop < 2 * n) = false := by simp; omega
    simp [e1, e2, e3, e4, d1, d2]

theorem rne_facts (n g : Nat) (hg : 0 < g) :
    2 * n ≤ 2 * (rne n g * g) + g ∧ 2 * (rne n g * g) ≤ 2 * n + g ∧
    (2 * n = 2 * (rne n g * g) + g → rne n g % 2 = 0) ∧ (2 * (rne n g * g) = 2 * n + g → rne n g % 2 = 0) := by
  have hd : g * (n / g) + n % g = n := Nat.div_add_mod n g
  have hm : n % g < g := Nat.mod_lt _ hg
  unfold rne
  generalize n / g = a at *
  generalize n % g = r at *
  have c : a * g = g * a := Nat.mul_comm _ _
  have c1 : (a + 1) * g = g * a + g := by rw [Nat.add_mul, c]; omega
  by_cases h1 : g < 2 * r
  · simp [h1, c1]; omega
  · by_cases h2 : g = 2 * r
    · by_cases h3 : a % 2 = 1
      · have e : (decide (g < 2 * r) || decide (g = 2 * r) && decide (a % 2 = 1)).toNat = 1 := by simp [h2, h3]
        rw [e, c1]; omega
      · have e : (decide (g < 2 * r) || decide (g = 2 * r) && decide (a % 2 = 1)).toNat = 0 := by simp [h1, h3]
        rw [e, Nat.add_zero, c]; omega
    · simp only [h1, h2, decide_false, Bool.false_or, Bool.false_and, Bool.toNat_false, Nat.add_zero]
      rw [c]; omega

theorem rne_exact (q g : Nat) (hg : 0 < g) : rne (q * g) g = q := by
  unfold rne
  rw [Nat.mul_div_cancel _ hg, Nat.mul_mod_left]
  have h0 : ¬ g < 2 * 0 := by omega
  have h1 : ¬ g = 2 * 0 := by omega
  simp [h0]; omega

theorem rne_mono {n g n' g' : Nat} (hg : 0 < g) (hg' : 0 < g') (h : n * g' ≤ n' * g) : rne n g ≤ rne n' g' := by
  obtain ⟨_, a2, _, a4⟩ := rne_facts n g hg
  obtain ⟨b1, _, b3, _⟩ := rne_facts n' g' hg'
  generalize rne n g = q at *
  generalize rne n' g' = q' at *
  by_cases hq : q ≤ q'
  · exact hq
  exfalso
  obtain ⟨d, rfl⟩ : ∃ d, q = q' + 1 + d := ⟨q - q' - 1, by omega⟩
  have A : (2 * ((q' + 1 + d) * g)) * g' ≤ (2 * n + g) * g' := Nat.mul_le_mul_right _ a2
  have B : (2 * n') * g ≤ (2 * (q' * g') + g') * g := Nat.mul_le_mul_right _ b1
  have hG : 0 < g * g' := Nat.mul_pos hg hg'
  have e1 : (2 * ((q' + 1 + d) * g)) * g' = 2 * (q' * (g * g')) + 2 * (g * g') + 2 * (d * (g * g')) := by
    simp only [Nat.add_mul, Nat.mul_add, Nat.mul_assoc, Nat.one_mul]
  have e2 : (2 * n + g) * g' = 2 * (n * g') + g * g' := by simp only [Nat.add_mul, Nat.mul_assoc]
  have e3 : (2 * (q' * g') + g') * g = 2 * (q' * (g * g')) + g * g' := by
    simp only [Nat.add_mul, Nat.mul_assoc, Nat.mul_comm g' g]
  have e4 : (2 * n') * g = 2 * (n' * g) := Nat.mul_assoc _ _ _
  rw [e1, e2] at A
  rw [e3, e4] at B
  have hd : d * (g * g') = 0 := by omega
  have hd0 : d = 0 := by
    rcases Nat.mul_eq_zero.1 hd with h | h
    · exact h
    · omega
  subst hd0
  have t1 : 2 * ((q' + 1 + 0) * g) = 2 * n + g := by
    apply Nat.eq_of_mul_eq_mul_right hg'
    rw [e1, e2]; omega
  have t2 : 2 * n' = 2 * (q' * g') + g' := by
    apply Nat.eq_of_mul_eq_mul_right hg
    rw [e3, e4]; omega
  have := a4 t1
  have := b3 t2
  omega

theorem rne_congr {n g n' g' : Nat} (hg : 0 < g) (hg' : 0 < g') (h : n * g' = n' * g) : rne n g = rne n' g' :=
  Nat.le_antisymm (rne_mono hg hg' (by omega)) (rne_mono hg' hg (by omega))

/-! ### The rung of a number -/
/-- The place of the last digit that is kept. -/
def last (m : Nat) (p : Int) : Int := max (p + m.log2 - 52) (-1074)
/-- The digits that are kept. -/
def kept (m : Nat) (p : Int) : Nat := rne (m <<< (p - last m p).toNat) (2 ^ (last m p - p).toNat)
/-- The rung without regard to infinity. -/
def R (m : Nat) (p : Int) : Nat := (last m p + 1074).toNat * 2 ^ 52 + kept m p

theorem infRung_eq : double.infRung = 2047 * 2 ^ 52 := by decide
theorem least_eq : double.leastPlace = -1074 := by decide

theorem nearest_eq (neg : Bool) (m : Nat) (p : Int) (h : m ≠ 0) : double.nearest neg m p = double.word neg (min (R m p) (2047 * 2 ^ 52)) := by
  unfold Format.nearest
  rw [if_neg h]
  simp only [cut_even, least_eq, infRung_eq]
  have e1 : (double.fractionBits : Int) = 52 := rfl
  have e2 : double.binade = 2 ^ 52 := rfl
  simp only [e1, e2]
  have e3 : ∀ x : Int, x - (-1074) = x + 1074 := fun x => by omega
  simp only [e3]
  rfl

theorem log2_mul_two_pow (m k : Nat) (h : m ≠ 0) : (m * 2 ^ k).log2 = m.log2 + k := by
  have h1 : 2 ^ m.log2 ≤ m := Nat.log2_self_le h
  have h2 : m < 2 ^ (m.log2 + 1) := Nat.lt_log2_self
  have hp : 0 < 2 ^ k := Nat.two_pow_pos k
  have h0 : m * 2 ^ k ≠ 0 := by
    intro hh
    rcases Nat.mul_eq_zero.1 hh with h' | h' <;> omega
  have l1 : m.log2 + k ≤ (m * 2 ^ k).log2 := by
    rw [Nat.le_log2 h0, Nat.pow_add]
    exact Nat.mul_le_mul_right _ h1
  have l2 : (m * 2 ^ k).log2 < m.log2 + k + 1 := by
    rw [Nat.log2_lt h0, show m.log2 + k + 1 = (m.log2 + 1) + k by omega, Nat.pow_add]
    exact Nat.mul_lt_mul_of_pos_right h2 hp
  omega

/-- kept, told without shifts: of any a, b with a - b = p - last. -/
theorem kept_eq (m : Nat) (p : Int) (a b : Nat) (h : (a : Int) - b = p - last m p) : kept m p = rne (m * 2 ^ a) (2 ^ b) := by
  unfold kept
  rw [Nat.shiftLeft_eq]
  refine rne_congr (Nat.two_pow_pos _) (Nat.two_pow_pos _) ?_
  rw [Nat.mul_assoc, Nat.mul_assoc, ← Nat.pow_add, ← Nat.pow_add]
  congr 2
  omega

theorem last_shift (m : Nat) (p : Int) (k : Nat) (h : m ≠ 0) : last (m * 2 ^ k) p = last m (p + k) := by
  unfold last
  rw [log2_mul_two_pow m k h]
  congr 1
  omega

theorem R_shift (m : Nat) (p : Int) (k : Nat) (h : m ≠ 0) : R (m * 2 ^ k) p = R m (p + k) := by
  unfold R
  have hl := last_shift m p k h
  rw [hl]
  congr 1
  have e := kept_eq (m * 2 ^ k) p (p - last m (p + k)).toNat (last m (p + k) - p).toNat (by rw [hl]; omega)
  have e' := kept_eq m (p + k) ((p - last m (p + k)).toNat + k) (last m (p + k) - p).toNat (by omega)
  rw [e, e', Nat.mul_assoc, ← Nat.pow_add, Nat.add_comm k]

theorem last_mono {X Y : Nat} (p : Int) (h : X ≤ Y) (hX : X ≠ 0) : last X p ≤ last Y p := by
  have : X.log2 ≤ Y.log2 := by
    rw [Nat.le_log2 (by omega)]
    exact Nat.le_trans (Nat.log2_self_le hX) h
  unfold last
  omega

theorem kept_le (X : Nat) (p : Int) : kept X p ≤ 2 ^ 53 := by
  rw [kept_eq X p (p - last X p).toNat (last X p - p).toNat (by omega)]
  have hb : 0 < 2 ^ (last X p - p).toNat := Nat.two_pow_pos _
  have e : rne (2 ^ 53 * 2 ^ (last X p - p).toNat) (2 ^ (last X p - p).toNat) = 2 ^ 53 := rne_exact _ _ hb
  rw [← e]
  apply rne_mono hb hb
  apply Nat.mul_le_mul_right
  have h2 : X < 2 ^ (X.log2 + 1) := Nat.lt_log2_self
  have hl : p + X.log2 - 52 ≤ last X p := by unfold last; omega
  have h3 : X * 2 ^ (p - last X p).toNat ≤ 2 ^ (X.log2 + 1) * 2 ^ (p - last X p).toNat := Nat.mul_le_mul_right _ (by omega)
  refine Nat.le_trans h3 ?_
  rw [← Nat.pow_add, ← Nat.pow_add]
  exact Nat.pow_le_pow_right (by omega) (by omega)

theorem kept_ge (Y : Nat) (p : Int) (hY : Y ≠ 0) (hl : -1074 < last Y p ∨ -1074 ≤ p + Y.log2 - 52) : 2 ^ 52 ≤ kept Y p := by
  have hl' : last Y p = p + Y.log2 - 52 := by unfold last at *; omega
  rw [kept_eq Y p (p - last Y p).toNat (last Y p - p).toNat (by omega)]
  have hb : 0 < 2 ^ (last Y p - p).toNat := Nat.two_pow_pos _
  have e : rne (2 ^ 52 * 2 ^ (last Y p - p).toNat) (2 ^ (last Y p - p).toNat) = 2 ^ 52 := rne_exact _ _ hb
  rw [← e]
  apply rne_mono hb hb
  apply Nat.mul_le_mul_right
  have h2 : 2 ^ Y.log2 ≤ Y := Nat.log2_self_le hY
  have h3 : 2 ^ Y.log2 * 2 ^ (p - last Y p).toNat ≤ Y * 2 ^ (p - last Y p).toNat := Nat.mul_le_mul_right _ h2
  refine Nat.le_trans ?_ h3
  rw [← Nat.pow_add, ← Nat.pow_add]
  exact Nat.pow_le_pow_right (by omega) (by omega)

/-- Rounding is monotone (at one place). -/
theorem R_mono {X Y : Nat} (p : Int) (h : X ≤ Y) (hX : X ≠ 0) : R X p ≤ R Y p := by
  have hlast := last_mono p h hX
  have hY : Y ≠ 0 := by omega
  by_cases he : last X p = last Y p
  · unfold R
    rw [he]
    apply Nat.add_le_add_left
    rw [kept_eq X p (p - last X p).toNat (last X p - p).toNat (by omega), kept_eq Y p (p - last X p).toNat (last X p - p).toNat (by omega)]
    apply rne_mono (Nat.two_pow_pos _) (Nat.two_pow_pos _)
    apply Nat.mul_le_mul_right
    exact Nat.mul_le_mul_right _ h
  · have hlt : last X p < last Y p := by omega
    have h1 : -1074 ≤ last X p := by unfold last; omega
    have k1 := kept_le X p
    have k2 := kept_ge Y p hY (Or.inl (by omega))
    unfold R
    have : (last X p + 1074).toNat + 1 ≤ (last Y p + 1074).toNat := by omega
    have : ((last X p + 1074).toNat + 1) * 2 ^ 52 ≤ (last Y p + 1074).toNat * 2 ^ 52 := Nat.mul_le_mul_right _ this
    omega

/-! ### What a rung stands for, in units of 2^-1074 -/
def V (r : Nat) : Nat := if r < 2 ^ 52 then r else (2 ^ 52 + r % 2 ^ 52) * 2 ^ (r / 2 ^ 52 - 1)

theorem V_of (e k : Nat) (h1 : e = 0 ∨ 2 ^ 52 ≤ k) (h2 : k ≤ 2 ^ 53) : V (e * 2 ^ 52 + k) = k * 2 ^ e := by
  unfold V
  by_cases hk : k < 2 ^ 52
  · have : e = 0 := by omega
    subst this
    rw [if_pos (by omega)]; simp
  · rw [if_neg (by omega)]
    by_cases hk2 : k = 2 ^ 53
    · subst hk2
      have e1 : (e * 2 ^ 52 + 2 ^ 53) % 2 ^ 52 = 0 := by omega
      have e2 : (e * 2 ^ 52 + 2 ^ 53) / 2 ^ 52 = e + 2 := by omega
      have e3 : (2 : Nat) ^ 53 = 2 ^ 52 * 2 := by decide
      rw [e1, e2, show e + 2 - 1 = e + 1 by omega, Nat.add_zero, e3, Nat.mul_assoc, Nat.pow_succ 2 e, Nat.mul_comm (2 ^ e) 2]
    · have e1 : (e * 2 ^ 52 + k) % 2 ^ 52 = k - 2 ^ 52 := by omega
      have e2 : (e * 2 ^ 52 + k) / 2 ^ 52 = e + 1 := by omega
      rw [e1, e2, show e + 1 - 1 = e by omega, show 2 ^ 52 + (k - 2 ^ 52) = k by omega]

theorem V_R (m : Nat) (p : Int) (h : m ≠ 0) : V (R m p) = kept m p * 2 ^ (last m p + 1074).toNat := by
  unfold R
  refine V_of _ _ ?_ (kept_le m p)
  by_cases hl : last m p = -1074
  · left; omega
  · right
    exact kept_ge m p h (Or.inl (by unfold last at *; omega))

theorem V_lt_succ (r : Nat) : V r < V (r + 1) := by
  by_cases h : r < 2 ^ 52
  · by_cases h' : r + 1 < 2 ^ 52
    · unfold V; rw [if_pos h, if_pos h']; omega
    · have : r = 2 ^ 52 - 1 := by omega
      subst this; decide
  · have ed := Nat.div_add_mod r (2 ^ 52)
    have hm : r % 2 ^ 52 < 2 ^ 52 := Nat.mod_lt _ (by omega)
    have a1 : r = (r / 2 ^ 52 - 1) * 2 ^ 52 + (2 ^ 52 + r % 2 ^ 52) := by omega
    have a2 : r + 1 = (r / 2 ^ 52 - 1) * 2 ^ 52 + (2 ^ 52 + r % 2 ^ 52 + 1) := by omega
    have hk : 2 ^ 52 ≤ 2 ^ 52 + r % 2 ^ 52 := by omega
    have hk' : 2 ^ 52 + r % 2 ^ 52 < 2 ^ 53 := by omega
    rw [a2, show V r = V ((r / 2 ^ 52 - 1) * 2 ^ 52 + (2 ^ 52 + r % 2 ^ 52)) from congrArg V a1]
    clear a1 a2 ed h
    generalize r / 2 ^ 52 - 1 = e
    generalize 2 ^ 52 + r % 2 ^ 52 = k at *
    rw [V_of e k (Or.inr hk) (by omega), V_of e (k + 1) (Or.inr (by omega)) (by omega)]
    exact Nat.mul_lt_mul_of_pos_right (by omega) (Nat.two_pow_pos _)

theorem V_strict {r s : Nat} (h : r < s) : V r < V s := by
  obtain ⟨d, rfl⟩ : ∃ d, s = r + 1 + d := ⟨s - r - 1, by omega⟩
  clear h
  induction d with
  | zero => exact V_lt_succ r
  | succ d ih => exact Nat.lt_trans ih (V_lt_succ _)

theorem V_mono {r s : Nat} (h : r ≤ s) : V r ≤ V s := by
  rcases Nat.lt_or_eq_of_le h with h | h
  · exact Nat.le_of_lt (V_strict h)
  · rw [h]; exact Nat.le_refl _

theorem V_lt_iff (r s : Nat) : V r < V s ↔ r < s := by
  constructor
  · intro h
    by_cases h' : r < s
    · exact h'
    · have := V_mono (show s ≤ r by omega); omega
  · exact V_strict

theorem V_le_iff (r s : Nat) : V r ≤ V s ↔ r ≤ s := by
  have := V_lt_iff s r
  omega


/-! ### Reading a word -/
theorem sw_eq : double.signWeight = 2 ^ 63 := by decide
theorem bin_eq : double.binade = 2 ^ 52 := by decide

def neg (b : Nat) : Bool := b / 2 ^ 63 % 2 == 1

theorem read_num (b : Nat) (h : b % 2 ^ 63 < 2047 * 2 ^ 52) :
    ∃ m p, double.read b = .number (neg b) m p ∧ -1074 ≤ p ∧ m * 2 ^ (p + 1074).toNat = V (b % 2 ^ 63) ∧ m < 2 ^ 53 := by
  unfold Format.read
  simp only [sw_eq, bin_eq, infRung_eq, least_eq]
  generalize b % 2 ^ 63 = r at *
  by_cases h1 : r < 2 ^ 52
  · refine ⟨r, -1074, ?_, by omega, ?_, by omega⟩
    · rw [if_pos h1]; rfl
    · unfold V; rw [if_pos h1]; simp
  · refine ⟨2 ^ 52 + r % 2 ^ 52, -1074 + (r / 2 ^ 52 - 1 : Nat), ?_, by omega, ?_, by omega⟩
    · rw [if_neg h1, if_pos h]; rfl
    · unfold V; rw [if_neg h1]; congr 2; omega

theorem read_inf (b : Nat) (h : b % 2 ^ 63 = 2047 * 2 ^ 52) : double.read b = .infinity (neg b) := by
  unfold Format.read
  simp only [sw_eq, bin_eq, infRung_eq, least_eq]
  rw [if_neg (by omega), if_neg (by omega), if_pos h]; rfl

theorem read_nan (b : Nat) (h : 2047 * 2 ^ 52 < b % 2 ^ 63) : double.read b = .nan (neg b) (b % 2 ^ 63 - 2047 * 2 ^ 52) := by
  unfold Format.read
  simp only [sw_eq, bin_eq, infRung_eq, least_eq]
  rw [if_neg (by omega), if_neg (by omega), if_neg (by omega)]; rfl

def isNan (b : Nat) : Bool := decide (2047 * 2 ^ 52 < b % 2 ^ 63)

/-! ### The order -/
/-- A number's value with its sign, in units of 2^-1074 (an infinity as the rung beyond all numbers). -/
def SV (b : Nat) : Int := if neg b then -(V (b % 2 ^ 63) : Int) else V (b % 2 ^ 63)

theorem compare_scale (x y : Int) (k : Nat) (hk : 0 < k) : compare (x * k) (y * k) = compare x y := by
  have hk' : (0 : Int) < k := by omega
  rcases Int.lt_trichotomy x y with h | h | h
  · rw [Int.compare_eq_lt.2 h, Int.compare_eq_lt.2 (Int.mul_lt_mul_of_pos_right h hk')]
  · rw [h]; simp
  · rw [Int.compare_eq_gt.2 h, Int.compare_eq_gt.2 (Int.mul_lt_mul_of_pos_right h hk')]

theorem signed_eq (s : Bool) (m u : Nat) : signed s m u = (if s then -((m * 2 ^ u : Nat) : Int) else ((m * 2 ^ u : Nat) : Int)) := by
  unfold signed; rw [Nat.shiftLeft_eq]

theorem signed_scale (s : Bool) (m : Nat) (p base : Int) (h1 : base ≤ p) (h2 : -1074 ≤ base) :
    signed s m (p - base).toNat * ((2 ^ (base + 1074).toNat : Nat) : Int) = (if s then -((m * 2 ^ (p + 1074).toNat : Nat) : Int) else ((m * 2 ^ (p + 1074).toNat : Nat) : Int)) := by
  have e : m * 2 ^ (p - base).toNat * 2 ^ (base + 1074).toNat = m * 2 ^ (p + 1074).toNat := by
    rw [Nat.mul_assoc, ← Nat.pow_add]; congr 2; omega
  rw [signed_eq, ← e]
  cases s
  · simp only [Bool.false_eq_true, if_false, Int.natCast_mul]
  · simp only [if_true, Int.natCast_mul, Int.neg_mul]

theorem V_inf_gt (r : Nat) (h : r < 2047 * 2 ^ 52) : V r < V (2047 * 2 ^ 52) := V_strict h

theorem SV_abs (b : Nat) : (SV b).natAbs = V (b % 2 ^ 63) := by unfold SV; split <;> simp

theorem order_eq (x y : Nat) (hx : isNan x = false) (hy : isNan y = false) : double.order x y = some (compare (SV x) (SV y)) := by
  have hx' : x % 2 ^ 63 ≤ 2047 * 2 ^ 52 := by simp only [isNan, decide_eq_false_iff_not] at hx; omega
  have hy' : y % 2 ^ 63 ≤ 2047 * 2 ^ 52 := by simp only [isNan, decide_eq_false_iff_not] at hy; omega
  unfold Format.order SV
  by_cases hx1 : x % 2 ^ 63 = 2047 * 2 ^ 52
  · rw [read_inf x hx1, hx1]
    by_cases hy1 : y % 2 ^ 63 = 2047 * 2 ^ 52
    · rw [read_inf y hy1, hy1]
      have hp : 0 < V (2047 * 2 ^ 52) := Nat.lt_of_le_of_lt (Nat.zero_le _) (V_inf_gt 0 (by omega))
      generalize V (2047 * 2 ^ 52) = z at *
      generalize neg x = s at *
      generalize neg y = t at *
      cases s <;> cases t <;> simp only [Datum.order, Option.some.injEq, Bool.false_eq_true, if_true, if_false]
      · simp
      · rw [Int.compare_eq_gt.2 (by omega)]; rfl
      · rw [Int.compare_eq_lt.2 (by omega)]; rfl
      · simp
    · obtain ⟨n, j, e, _, hv, _⟩ := read_num y (by omega)
      have hz := V_inf_gt (y % 2 ^ 63) (by omega)
      rw [e]
      generalize V (2047 * 2 ^ 52) = z at *
      generalize V (y % 2 ^ 63) = u at *
      generalize neg x = s at *
      generalize neg y = t at *
      cases s <;> cases t <;> simp only [Datum.order, Option.some.injEq, Bool.false_eq_true, if_true, if_false]
      · rw [Int.compare_eq_gt.2 (by omega)]
      · rw [Int.compare_eq_gt.2 (by omega)]
      · rw [Int.compare_eq_lt.2 (by omega)]
      · rw [Int.compare_eq_lt.2 (by omega)]
  · obtain ⟨m, i, e1, hi, hv, _⟩ := read_num x (by omega)
    rw [e1]
    by_cases hy1 : y % 2 ^ 63 = 2047 * 2 ^ 52
    · rw [read_inf y hy1, hy1]
      have hz := V_inf_gt (x % 2 ^ 63) (by omega)
      generalize V (2047 * 2 ^ 52) = z at *
      generalize V (x % 2 ^ 63) = u at *
      generalize neg x = s at *
      generalize neg y = t at *
      cases s <;> cases t <;> simp only [Datum.order, Option.some.injEq, Bool.false_eq_true, if_true, if_false]
      · rw [Int.compare_eq_lt.2 (by omega)]
      · rw [Int.compare_eq_gt.2 (by omega)]
      · rw [Int.compare_eq_lt.2 (by omega)]
      · rw [Int.compare_eq_gt.2 (by omega)]
    · obtain ⟨n, j, e2, hj, hw, _⟩ := read_num y (by omega)
      rw [e2]
      simp only [Datum.order, Option.some.injEq]
      have hb : -1074 ≤ min i j := by omega
      rw [← compare_scale _ _ (2 ^ (min i j + 1074).toNat) (Nat.two_pow_pos _), signed_scale (neg x) m i (min i j) (by omega) hb, signed_scale (neg y) n j (min i j) (by omega) hb, hv, hw]

theorem order_nan_l (x y : Nat) (hx : isNan x = true) : double.order x y = none := by
  simp only [isNan, decide_eq_true_eq] at hx
  unfold Format.order
  rw [read_nan x hx]; rfl

theorem order_nan_r (x y : Nat) (hy : isNan y = true) : double.order x y = none := by
  simp only [isNan, decide_eq_true_eq] at hy
  unfold Format.order
  rw [read_nan y hy]
  cases double.read x <;> rfl

/-! ### A whole number as a float -/
/-- The rung of float64(n). -/
def fl (n : Nat) : Nat := if n = 0 then 0 else R n 0

theorem R_lt_of_last (m : Nat) (p : Int) (h : last m p ≤ 970) : R m p < 2047 * 2 ^ 52 := by
  have := kept_le m p
  have h1 : -1074 ≤ last m p := by unfold last; omega
  unfold R
  have : (last m p + 1074).toNat ≤ 2044 := by omega
  have : (last m p + 1074).toNat * 2 ^ 52 ≤ 2044 * 2 ^ 52 := Nat.mul_le_mul_right _ this
  omega

theorem fl_lt (n : Nat) (h : n < 2 ^ 64) : fl n < 2047 * 2 ^ 52 := by
  unfold fl
  split
  · omega
  · rename_i hn
    apply R_lt_of_last
    have : n.log2 < 64 := (Nat.log2_lt hn).2 h
    unfold last; omega

theorem nearest_nat (n : Nat) (h : n < 2 ^ 64) : double.nearest false n 0 = fl n := by
  have := fl_lt n h
  by_cases hn : n = 0
  · subst hn; rfl
  · rw [nearest_eq false n 0 hn]
    unfold fl at *
    rw [if_neg hn] at *
    rw [Nat.min_eq_left (by omega)]; rfl

theorem fl_pos (n : Nat) (h : n ≠ 0) : 0 < V (fl n) := by
  have h1 : R 1 0 ≤ R n 0 := R_mono 0 (by omega) (by omega)
  have h2 : R 1 0 = 1023 * 2 ^ 52 := by decide
  have : 0 < fl n := by unfold fl; rw [if_neg h]; omega
  have := V_strict this
  omega

theorem fl_mono {n m : Nat} (h : n ≤ m) : fl n ≤ fl m := by
  unfold fl
  by_cases hn : n = 0
  · rw [if_pos hn]; omega
  · rw [if_neg hn, if_neg (by omega)]; exact R_mono 0 h hn

/-- Kept closed: 2^1074. -/
def pw (k : Nat) : Nat := 2 ^ k
theorem pw_pos (k : Nat) : 0 < pw k := Nat.two_pow_pos k
theorem pw_eq (k : Nat) : pw k = 2 ^ k := rfl
def U : Nat := pw 1074
theorem U_pos : 0 < U := pw_pos 1074
theorem U_eq (k : Nat) (h : k = 1074) : U = 2 ^ k := by
  rw [← pw_eq, h]; rfl
theorem V_zero : V 0 = 0 := by unfold V; rw [if_pos (by omega)]
/-- Nothing is dropped below 2^53. -/
theorem V_fl (n : Nat) (h : n < 2 ^ 53) : V (fl n) = n * U := by
  unfold fl
  by_cases hn : n = 0
  · subst hn; rw [if_pos rfl, V_zero, Nat.zero_mul]
  · rw [if_neg hn, V_R n 0 hn]
    have hl : n.log2 < 53 := (Nat.log2_lt hn).2 h
    have h0 : last n 0 = n.log2 - 52 := by unfold last; omega
    rw [kept_eq n 0 (52 - n.log2) 0 (by rw [h0]; omega)]
    have e := rne_exact (n * 2 ^ (52 - n.log2)) (2 ^ 0) (Nat.two_pow_pos _)
    rw [Nat.pow_zero, Nat.mul_one] at e
    rw [Nat.pow_zero, e, h0, Nat.mul_assoc, ← Nat.pow_add, ← U_eq _ (by omega)]


/-! ### The product of a whole number and a float -/
/-- The rung of float64(n) * f, f of rung r. -/
def prod (n r : Nat) : Nat := min (R (V (fl n) * V r) (-2148)) (2047 * 2 ^ 52)

theorem R_prod (m m' : Nat) (p p' : Int) (h : -1074 ≤ p) (h' : -1074 ≤ p') (h0 : m * m' ≠ 0) :
    R (m * m') (p + p') = R (m * 2 ^ (p + 1074).toNat * (m' * 2 ^ (p' + 1074).toNat)) (-2148) := by
  have e : m * 2 ^ (p + 1074).toNat * (m' * 2 ^ (p' + 1074).toNat) = m * m' * 2 ^ ((p + 1074).toNat + (p' + 1074).toNat) := by
    rw [Nat.pow_add]
    simp only [Nat.mul_assoc, Nat.mul_left_comm]
  rw [e, R_shift _ _ _ h0]
  congr 1
  omega

theorem word_false (f : Format) (r : Nat) : f.word false r = r := by unfold Format.word; simp

theorem mul_eq (n b : Nat) (hn : n ≠ 0) (hn' : n < 2 ^ 64) (hb : neg b = false) (hb0 : b % 2 ^ 63 ≠ 0) (hb1 : b % 2 ^ 63 ≤ 2047 * 2 ^ 52) :
    double.mul (fl n) b = some (prod n (b % 2 ^ 63)) := by
  have h1 := fl_lt n hn'
  have hmod : fl n % 2 ^ 63 = fl n := Nat.mod_eq_of_lt (by omega)
  have hneg : neg (fl n) = false := by
    unfold neg
    rw [Nat.div_eq_of_lt (show fl n < 2 ^ 63 by omega)]; rfl
  obtain ⟨m, p, e1, hp, hv, hm⟩ := read_num (fl n) (by omega)
  rw [hmod] at hv
  have hpos := fl_pos n hn
  have hVb : 0 < V (b % 2 ^ 63) := by
    have := V_strict (show 0 < b % 2 ^ 63 by omega)
    omega
  unfold Format.mul prod
  rw [e1, hneg]
  have hm0 : m ≠ 0 := by
    intro h; subst h; rw [Nat.zero_mul] at hv; omega
  by_cases hi : b % 2 ^ 63 = 2047 * 2 ^ 52
  · rw [read_inf b hi, hb, hi]
    simp only [Datum.product, if_neg hm0, Option.map_some, Format.write, Option.some.injEq]
    have e2 : R (V (fl n) * V (2047 * 2 ^ 52)) (-2148) ≥ 2047 * 2 ^ 52 := by
      have a : V (fl 1) ≤ V (fl n) := V_mono (fl_mono (by omega))
      have hV1 : V (fl 1) = 2 ^ 52 * 2 ^ ((-52 : Int) + 1074).toNat := by
        have h1 : fl 1 = R 1 0 := rfl
        have h2 : kept 1 0 = 2 ^ 52 := by decide
        have h3 : last 1 0 = -52 := by decide
        rw [h1, V_R 1 0 (by omega), h2, h3]
      have hVi : V (2047 * 2 ^ 52) = 2 ^ 52 * 2 ^ ((972 : Int) + 1074).toNat := by
        have := V_of ((972 : Int) + 1074).toNat (2 ^ 52) (Or.inr (Nat.le_refl _)) (by omega)
        rw [← this, show ((972 : Int) + 1074).toNat * 2 ^ 52 + 2 ^ 52 = 2047 * 2 ^ 52 by decide]
      have h3 : V (fl 1) * V (2047 * 2 ^ 52) ≤ V (fl n) * V (2047 * 2 ^ 52) := Nat.mul_le_mul_right _ a
      have h4 := R_mono (-2148) h3 (by
        rw [hV1, hVi]
        exact Nat.ne_of_gt (Nat.mul_pos (Nat.mul_pos (Nat.two_pow_pos _) (Nat.two_pow_pos _)) (Nat.mul_pos (Nat.two_pow_pos _) (Nat.two_pow_pos _))))
      have h5 := R_prod (2 ^ 52) (2 ^ 52) (-52) 972 (by omega) (by omega) (by omega)
      rw [← hV1, ← hVi] at h5
      have h6 : R (2 ^ 52 * 2 ^ 52) (-52 + 972) = 2047 * 2 ^ 52 := by decide
      omega
    rw [Nat.min_eq_right e2]
    unfold Format.word
    simp [infRung_eq]
  · obtain ⟨m', p', e2, hp', hv', hm'⟩ := read_num b (by omega)
    rw [e2, hb]
    have hm0' : m' ≠ 0 := by
      intro h; subst h; rw [Nat.zero_mul] at hv'; omega
    have hne : m * m' ≠ 0 := by
      intro h; rcases Nat.mul_eq_zero.1 h with h | h <;> omega
    simp only [Datum.product, Option.map_some, Format.write, Bool.xor_false, Option.some.injEq]
    rw [nearest_eq _ _ _ hne, R_prod m m' p p' hp hp' hne, hv, hv', word_false]

theorem prod_le (n r : Nat) : prod n r ≤ 2047 * 2 ^ 52 := Nat.min_le_right _ _

theorem prod_mono {n r s : Nat} (hn : n ≠ 0) (hr : r ≠ 0) (h : r ≤ s) : prod n r ≤ prod n s := by
  have h1 := V_mono h
  have h2 := fl_pos n hn
  have h3 : 0 < V r := by have := V_strict (show 0 < r by omega); omega
  have h4 : V (fl n) * V r ≤ V (fl n) * V s := Nat.mul_le_mul_left _ h1
  have h5 := R_mono (-2148) h4 (Nat.ne_of_gt (Nat.mul_pos h2 h3))
  unfold prod
  exact Nat.le_min.2 ⟨Nat.le_trans (Nat.min_le_left _ _) h5, Nat.min_le_right _ _⟩

/-! ### The whole part -/
/-- The whole part of a number of rung r. -/
def whole (r : Nat) : Nat := V r / U

theorem cut_low (way : Toward) (hw : way = .down ∨ way = .zero) (m : Nat) (p : Int) (hp : -1074 ≤ p) :
    way.cut false (m <<< p.toNat) (-p).toNat = m * 2 ^ (p + 1074).toNat / U := by
  have e0 : way.cut false (m <<< p.toNat) (-p).toNat = (m <<< p.toNat) / (1 <<< min (-p).toNat ((m <<< p.toNat).log2 + 2)) := by
    unfold Toward.cut
    rcases hw with rfl | rfl <;> simp
  rw [e0, Nat.one_shiftLeft, Nat.shiftLeft_eq]
  generalize hX : m * 2 ^ p.toNat = X
  have e1 : X / 2 ^ min (-p).toNat (X.log2 + 2) = X / 2 ^ (-p).toNat := by
    by_cases h : (-p).toNat ≤ X.log2 + 2
    · rw [Nat.min_eq_left h]
    · have h' : X.log2 + 2 ≤ (-p).toNat := by omega
      rw [Nat.min_eq_right h']
      have h1 : X < 2 ^ (X.log2 + 1) := Nat.lt_log2_self
      have h2 : 2 ^ (X.log2 + 1) ≤ 2 ^ (X.log2 + 2) := Nat.pow_le_pow_right (by omega) (by omega)
      have h3 : 2 ^ (X.log2 + 2) ≤ 2 ^ (-p).toNat := Nat.pow_le_pow_right (by omega) h'
      rw [Nat.div_eq_of_lt (by omega), Nat.div_eq_of_lt (by omega)]
  rw [e1, ← hX]
  by_cases h : 0 ≤ p
  · have e2 : m * 2 ^ (p + 1074).toNat = m * 2 ^ p.toNat * U := by
      rw [Nat.mul_assoc, U_eq ((p + 1074).toNat - p.toNat) (by omega), ← Nat.pow_add]; congr 2; omega
    rw [show (-p).toNat = 0 by omega, e2, Nat.mul_div_cancel _ U_pos, Nat.pow_zero, Nat.div_one]
  · rw [show p.toNat = 0 by omega, Nat.pow_zero, Nat.mul_one]
    have e3 : U = 2 ^ (-p).toNat * 2 ^ (p + 1074).toNat := by rw [← Nat.pow_add]; exact U_eq _ (by omega)
    rw [e3, Nat.mul_div_mul_right _ _ (Nat.two_pow_pos _)]

theorem neg_small (r : Nat) (h : r < 2 ^ 63) : neg r = false ∧ r % 2 ^ 63 = r := by
  refine ⟨?_, Nat.mod_eq_of_lt h⟩
  unfold neg; rw [Nat.div_eq_of_lt h]; rfl

/-- uint64(x) of a number that is not negative. -/
theorem toInt_eq (r : Nat) (h : r < 2047 * 2 ^ 52) : (double.read r).toInt .zero = some (whole r : Int) := by
  obtain ⟨h1, h2⟩ := neg_small r (by omega)
  obtain ⟨m, p, e, hp, hv, _⟩ := read_num r (by omega)
  rw [e, h1]
  unfold Datum.toInt whole
  simp only [Datum.integral, signed_eq, cut_low .zero (Or.inr rfl) m p hp]
  rw [hv, h2]
  simp

/-- Whole parts of floats are floats. -/
theorem V_fl_whole (r : Nat) (h : r < 2047 * 2 ^ 52) (h' : whole r < 2 ^ 64) : V (fl (whole r)) = whole r * U := by
  by_cases hk : whole r < 2 ^ 53
  · exact V_fl _ hk
  · obtain ⟨h1, h2⟩ := neg_small r (by omega)
    obtain ⟨m, p, e, hp, hv, hm⟩ := read_num r (by omega)
    rw [h2] at hv
    have hp0 : 0 ≤ p := by
      refine Classical.byContradiction fun hc => hk ?_
      unfold whole
      rw [← hv, Nat.div_lt_iff_lt_mul U_pos]
      have a : m * 2 ^ (p + 1074).toNat ≤ m * U := by
        rw [U_eq ((p + 1074).toNat + (-p).toNat) (by omega)]
        exact Nat.mul_le_mul_left _ (Nat.pow_le_pow_right (by omega) (by omega))
      have b : m * U < 2 ^ 53 * U := Nat.mul_lt_mul_of_pos_right hm U_pos
      exact Nat.lt_of_le_of_lt a b
    have hw : whole r = m * 2 ^ p.toNat := by
      unfold whole
      have e2 : m * 2 ^ (p + 1074).toNat = m * 2 ^ p.toNat * U := by
        rw [Nat.mul_assoc, U_eq ((p + 1074).toNat - p.toNat) (by omega), ← Nat.pow_add]; congr 2; omega
      rw [← hv, e2, Nat.mul_div_cancel _ U_pos]
    have hm0 : m ≠ 0 := by
      intro h0; subst h0; rw [Nat.zero_mul] at hw; omega
    have hl : m.log2 < 53 := (Nat.log2_lt hm0).2 hm
    have hne : m * 2 ^ p.toNat ≠ 0 := by
      intro h0; rcases Nat.mul_eq_zero.1 h0 with h0 | h0
      · exact hm0 h0
      · have := Nat.two_pow_pos p.toNat; omega
    unfold fl
    rw [hw, if_neg hne, R_shift m 0 p.toNat hm0]
    have hz : (0 : Int) + (p.toNat : Int) = p := by omega
    rw [hz, V_R m p hm0]
    have hlast : last m p = p + m.log2 - 52 := by unfold last; omega
    rw [kept_eq m p (52 - m.log2) 0 (by rw [hlast]; omega)]
    have e := rne_exact (m * 2 ^ (52 - m.log2)) (2 ^ 0) (Nat.two_pow_pos _)
    rw [Nat.pow_zero, Nat.mul_one] at e
    rw [Nat.pow_zero, e, hlast, Nat.mul_assoc, Nat.mul_assoc, ← Nat.pow_add, U_eq (52 - m.log2 + (p + m.log2 - 52 + 1074).toNat - p.toNat) (by omega), ← Nat.pow_add]
    congr 2
    omega

/-! ### The scaled ticks -/
/-- What Scale gives of n ticks and a number of rung r (an infinity too). -/
def scl (n r : Nat) : Nat := min (whole (prod n r)) (2 ^ 63 - 1)

theorem whole_mono {r s : Nat} (h : r ≤ s) : whole r ≤ whole s := Nat.div_le_div_right (V_mono h)

theorem scl_mono {n r s : Nat} (hn : n ≠ 0) (hr : r ≠ 0) (h : r ≤ s) : scl n r ≤ scl n s := by
  have := whole_mono (prod_mono hn hr h)
  unfold scl; omega

theorem V_one : V (1023 * 2 ^ 52) = U := by
  obtain ⟨e, he⟩ : ∃ e : Nat, e = 1022 := ⟨_, rfl⟩
  have h := V_of e (2 ^ 52) (Or.inr (Nat.le_refl _)) (by omega)
  rw [show e * 2 ^ 52 + 2 ^ 52 = 1023 * 2 ^ 52 by omega, ← Nat.pow_add] at h
  exact h.trans (U_eq (52 + e) (by omega)).symm

theorem scl_one (k : Nat) (h0 : k ≠ 0) (h : k < 2 ^ 53) : scl k (1023 * 2 ^ 52) = k := by
  have hp : prod k (1023 * 2 ^ 52) = fl k := by
    unfold prod
    rw [V_fl k h, V_one]
    have hne : k * U ≠ 0 := Nat.ne_of_gt (Nat.mul_pos (by omega) U_pos)
    have hs : R (k * U * U) (-2148) = R k 0 := by
      have e := U_eq 1074 rfl
      rw [e] at hne ⊢
      rw [R_shift _ (-2148) 1074 hne, R_shift k _ 1074 h0]
      exact congrArg (R k) (by omega)
    have := fl_lt k (by omega)
    unfold fl at *
    rw [if_neg h0] at *
    rw [hs]
    omega
  unfold scl
  rw [hp]
  unfold whole
  rw [V_fl k h, Nat.mul_div_cancel _ U_pos]
  omega

end Go.Proofs.YtpneejlilgepfaaGreatDoor.Fm
