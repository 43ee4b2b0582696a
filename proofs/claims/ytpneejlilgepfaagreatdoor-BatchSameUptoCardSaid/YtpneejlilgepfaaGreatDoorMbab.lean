/- Contracts of package num's arithmetic (Canon, Bits, Of, Scale, Add) and of the reference's. -/
/- A law of the walk for 'for .. := range it' where the iterator keeps state of its own in a cell: the loop is told by predicates on worlds, and the iterator's own stores are taken in. No program in sight. -/
/- The iterator of a number's bytes (bin.digits$1), walked inside the wide fence, for whatever loop body. -/
/- Trees of values (the program's api.Value) and how they lie in memory: the word 'Rep', what keeps it, and an argument opened into it. -/
import Derived.Test.YtpneejlilgepfaaGreatDoorRows
import Derived.Test.YtpneejlilgepfaaGreatDoorMbaa
import Derived.WalkKit
import Derived.WalkLawsBesides
import Derived.WalkSpells
import Derived.RowKit3
import Derived.Outline
import Derived.Lib.Hide
import Derived.Laws.Bits64b
import Derived.Laws.Externs
import Derived.Laws.FloatArith
import Derived.Deep.QuietTactic
import Derived.BigQuiet
import Derived.RangeFuncNested
import Derived.RangeFuncBound
import Derived.RangeFuncCalls
import Derived.RangeFuncLeaves
import Derived.Below
import Derived.OwnWalkIn
import Derived.TacticsInMore
import Derived.LoopNIn
import Derived.LoopIn
import Derived.Laws.EntriesVeiled
import Derived.ChangeArms
import Derived.Deep.Draws
import Derived.ProofKit
import Derived.OpenShut
import Derived.Lib.SmallJoins
namespace Go.Proofs.YtpneejlilgepfaaGreatDoor
open Go.RowKit
namespace Nm

theorem ret_int {k : IntKind} {a b : Int} (h : a = b) : Ending.returned (.int k a) = .returned (.int k b) := by rw [h]
theorem ret_bool {a b : Bool} (h : a = b) : Ending.returned (.bool a) = .returned (.bool b) := by rw [h]

theorem run_f64bits (b : Nat) (w : World) : (callFunc 134 #[.float .f64 b]).run Tryz.prog w = .ok (.value (.int .u64 b)) w := by kernel_rfl
theorem run_frombits (b : Int) (w : World) : (callFunc 148 #[.int .u64 b]).run Tryz.prog w = .ok (.value (.float .f64 b.toNat)) w := by kernel_rfl

/-- The word of the whole part. -/
def floorW (q : Nat) : Nat := if q = 2047 * 2 ^ 52 then q else Ieee.double.nearest false (Fm.whole q) 0

theorem toI (q : Nat) (d : Ieee.Datum) (h : FloatKind.f64.decode q = d) (hn : ∀ s t, d ≠ .nan s t) :
    Extern.MathFloor.toIntegral "math.archFloor" .down #[.float .f64 q] = pure (.float .f64 (FloatKind.f64.encode (d.integral .down))) := by
  conv => lhs; whnf
  rw [h]
  cases d with
  | nan s t => exact absurd rfl (hn s t)
  | infinity s => rfl
  | number s m e => rfl

theorem mask63 (b : Nat) (hb : b < 18446744073709551616) : bits BinOp.and IntKind.u64 (b : Int) 9223372036854775807 = ((b % 9223372036854775808 : Nat) : Int) := by
  have h := bits_and_u64_nat b 9223372036854775807 hb (by omega)
  have e : b &&& 9223372036854775807 = b % 9223372036854775808 := Nat.and_two_pow_sub_one_eq_mod b 63
  rw [e] at h
  exact h

theorem nan_any (b : Nat) (hb : b < 18446744073709551616) (w : World) : Calls Tryz.prog 149 #[.int .u64 b] w fun e w' => e = .returned (.bool (Fm.isNan b)) ∧ w = w' := by
  have HB := Lib.hid hb; clear hb
  go_enter Tryz.func149, Tryz.ntmps149
  go_wp2
  go_ret
  refine ⟨ret_bool ?_, rfl⟩
  rw [mask63 b HB.out]
  unfold Fm.isNan
  rw [decide_eq_decide]
  omega

/-- Greater than 0. -/
def pos (b : Nat) : Bool := !Fm.neg b && !Fm.isNan b && decide (b % 2 ^ 63 ≠ 0)

theorem sv_zero : Fm.SV 0 = 0 := by
  have h := Fm.neg_small 0 (by omega)
  unfold Fm.SV; rw [h.1, h.2, Fm.V_zero]; rfl

theorem V_pos {r : Nat} (h : r ≠ 0) : 0 < Fm.V r := by
  have := Fm.V_strict (show 0 < r by omega); omega

theorem ord_zero (b : Nat) : (FloatKind.f64.format.order b 0 == some Ordering.gt) = pos b := by
  show (Ieee.double.order b 0 == some Ordering.gt) = pos b
  unfold pos
  cases hn : Fm.isNan b with
  | true => rw [Fm.order_nan_l b 0 hn]; simp
  | false =>
    rw [Fm.order_eq b 0 hn (by decide), sv_zero]
    unfold Fm.SV
    cases hs : Fm.neg b with
    | true =>
      simp only [if_true, Bool.not_true, Bool.false_and]
      rw [beq_eq_false_iff_ne]
      intro h
      have := Int.compare_eq_gt.1 (Option.some.inj h)
      omega
    | false =>
      simp only [Bool.false_eq_true, if_false, Bool.not_false, Bool.true_and]
      by_cases h0 : b % 2 ^ 63 = 0
      · rw [h0, Fm.V_zero]; rfl
      · have := V_pos h0
        rw [Int.compare_eq_gt.2 (by omega)]; simp [h0]

/-- 2^63 as a float64. -/
def top63 : Nat := 4890909195324358656
theorem V_top : Fm.V top63 = 9223372036854775808 * Fm.U := by
  have h : top63 = Fm.fl 9223372036854775808 := by decide
  rw [h]
  have e : Fm.fl 9223372036854775808 = Fm.R 9223372036854775808 0 := rfl
  rw [e, Fm.V_R _ _ (by omega)]
  have k1 : Fm.kept 9223372036854775808 0 = 2 ^ 52 := by decide
  have k2 : Fm.last 9223372036854775808 0 = 11 := by decide
  rw [k1, k2, Fm.U_eq ((11 + 1074 : Int).toNat - 11) (by decide)]
  have k3 : (9223372036854775808 : Nat) = 2 ^ 52 * 2 ^ 11 := by decide
  have k4 : (11 + 1074 : Int).toNat = 11 + ((11 + 1074 : Int).toNat - 11) := by omega
  rw [k3, Nat.mul_assoc, ← Nat.pow_add 2 11, ← k4]

theorem ord_small (q c : Nat) (hq : q ≤ 2047 * 2 ^ 52) (hc : c ≤ 2047 * 2 ^ 52) : FloatKind.f64.format.order q c = some (compare (Fm.V q : Int) (Fm.V c : Int)) := by
  show Ieee.double.order q c = _
  have h1 := Fm.neg_small q (by omega)
  have h2 := Fm.neg_small c (by omega)
  have n1 : Fm.isNan q = false := by unfold Fm.isNan; rw [h1.2]; simp; omega
  have n2 : Fm.isNan c = false := by unfold Fm.isNan; rw [h2.2]; simp; omega
  rw [Fm.order_eq q c n1 n2]
  unfold Fm.SV
  rw [h1.1, h2.1, h1.2, h2.2]; rfl

theorem ge_of (q c : Nat) (hq : q ≤ 2047 * 2 ^ 52) (hc : c ≤ 2047 * 2 ^ 52) (h : Fm.V c ≤ Fm.V q) :
    (FloatKind.f64.format.order q c == some Ordering.gt || FloatKind.f64.format.order q c == some Ordering.eq) = true := by
  rw [ord_small q c hq hc]
  by_cases e : Fm.V c = Fm.V q
  · rw [e]; simp
  · rw [Int.compare_eq_gt.2 (by omega)]; rfl
theorem lt_of (q c : Nat) (hq : q ≤ 2047 * 2 ^ 52) (hc : c ≤ 2047 * 2 ^ 52) (h : Fm.V q < Fm.V c) : FloatKind.f64.format.order q c = some Ordering.lt := by
  rw [ord_small q c hq hc, Int.compare_eq_lt.2 (by omega)]

theorem whole_ge (q : Nat) : 9223372036854775808 ≤ Fm.whole q ↔ Fm.V top63 ≤ Fm.V q := by
  unfold Fm.whole
  rw [V_top, Nat.le_div_iff_mul_le Fm.U_pos]

/-- The whole part's word. -/
theorem floor_lt (q : Nat) (hq : q ≤ 2047 * 2 ^ 52) (h : Fm.whole q < 9223372036854775808) : q < 2047 * 2 ^ 52 ∧ floorW q = Fm.fl (Fm.whole q) ∧ Fm.V (floorW q) = Fm.whole q * Fm.U ∧ floorW q < 2047 * 2 ^ 52 ∧ Fm.whole (floorW q) = Fm.whole q := by
  have hqi : q ≠ 2047 * 2 ^ 52 := by
    intro e
    have h1 : Fm.V top63 < Fm.V q := Fm.V_strict (by rw [e]; decide)
    have := (whole_ge q).2 (Nat.le_of_lt h1)
    omega
  have e1 : floorW q = Fm.fl (Fm.whole q) := by
    unfold floorW; rw [if_neg hqi, Fm.nearest_nat _ (by omega)]
  have e2 := Fm.V_fl_whole q (by omega) (by omega)
  refine ⟨by omega, e1, by rw [e1, e2], by rw [e1]; exact Fm.fl_lt _ (by omega), ?_⟩
  rw [e1]
  show Fm.V (Fm.fl (Fm.whole q)) / Fm.U = _
  rw [e2, Nat.mul_div_cancel _ Fm.U_pos]

theorem floor_ge (q : Nat) (hq : q ≤ 2047 * 2 ^ 52) (h : 9223372036854775808 ≤ Fm.whole q) : floorW q ≤ 2047 * 2 ^ 52 ∧ Fm.V top63 ≤ Fm.V (floorW q) := by
  unfold floorW
  by_cases hi : q = 2047 * 2 ^ 52
  · rw [if_pos hi]; exact ⟨hq, (whole_ge q).1 h⟩
  · rw [if_neg hi, Fm.nearest_eq false _ 0 (by omega), Fm.word_false]
    refine ⟨Nat.min_le_right _ _, Fm.V_mono ?_⟩
    have h1 := Fm.R_mono 0 h (by omega)
    have h2 : Fm.R 9223372036854775808 0 = top63 := by decide
    have h3 : top63 ≤ 2047 * 2 ^ 52 := by decide
    exact Nat.le_min.2 ⟨by omega, h3⟩

/-- uint64 of a float below 2^63. -/
theorem conv_lt (q : Nat) (hq : q < 2047 * 2 ^ 52) (h : Fm.whole q < 9223372036854775808) : floatToIntVal .f64 q .u64 = some (Fm.whole q : Int) := by
  unfold floatToIntVal
  have e : (FloatKind.f64.decode q).toInt .zero = some (Fm.whole q : Int) := Fm.toInt_eq q hq
  rw [e]
  have h1 : IntKind.u64.min = 0 := by decide
  have h2 : IntKind.u64.max = 18446744073709551615 := by decide
  show (if IntKind.u64.min ≤ (Fm.whole q : Int) ∧ (Fm.whole q : Int) ≤ IntKind.u64.max then some (Fm.whole q : Int) else none) = _
  rw [h1, h2, if_pos (by omega)]

/-- What Scale gives. -/
def scaleW (n b : Nat) : Nat := if n ≠ 0 ∧ pos b = true then Fm.scl n (b % 2 ^ 63) else 0

theorem mul_run (n b : Nat) (hn : n ≠ 0) (hn' : n < 18446744073709551616) (hp : pos b = true) (w : World) :
    (binOp .mul 38 (.float .f64 (floatOfInt .f64 n)) (.float .f64 b)).run Tryz.prog w = .ok (.float .f64 (Fm.prod n (b % 2 ^ 63))) w := by
  refine run_float_arith w .mul _ .f64 _ _ _ ?_
  unfold pos at hp
  simp only [Bool.and_eq_true, Bool.not_eq_true', decide_eq_true_eq] at hp
  obtain ⟨⟨h1, h2⟩, h3⟩ := hp
  unfold Fm.isNan at h2
  simp only [decide_eq_false_iff_not] at h2
  have e : floatOfInt .f64 n = Fm.fl n := by
    show Ieee.double.nearest (decide ((n : Int) < 0)) (n : Int).natAbs 0 = _
    have : decide ((n : Int) < 0) = false := by simp
    rw [this, Int.natAbs_natCast]
    exact Fm.nearest_nat n (by omega)
  rw [e]
  exact Fm.mul_eq n b hn (by omega) h1 h3 (by omega)

/-! ### Sums -/
def addW (a b : Nat) : Nat := if a + b ≤ 9223372036854775807 then a + b else 9223372036854775807

/-! ### Bits -/
/-- The bits of the NaN. -/
def quietW : Nat := 9221120237041090561
def bitsW (b : Nat) : Nat := if Fm.isNan b = true then quietW else b

theorem neq_self (b : Nat) : (FloatKind.f64.format.order b b != some Ordering.eq) = Fm.isNan b := by
  show (Ieee.double.order b b != some Ordering.eq) = Fm.isNan b
  cases hn : Fm.isNan b with
  | true => rw [Fm.order_nan_l b b hn]; rfl
  | false => rw [Fm.order_eq b b hn hn]; simp

theorem rbits_any (b : Nat) (hb : b < 18446744073709551616) (w : World) : Calls Tryz.prog 132 #[.float .f64 b] w fun e w' => e = .returned (.int .u64 (bitsW b)) ∧ w = w' := by
  have hr := fun w => run_f64bits b w
  have hn := fun w => nan_any b hb w
  unfold bitsW
  cases h : Fm.isNan b with
  | true =>
    rw [h] at hn
    clear h hb
    go_enter Tryz.func132, Tryz.ntmps132
    go_wp2_with (go_at_call 149; refine (hn _).mono ?_; rintro e w' ⟨rfl, rfl⟩)
    go_ret
    exact ⟨rfl, rfl⟩
  | false =>
    rw [h] at hn
    clear h hb
    go_enter Tryz.func132, Tryz.ntmps132
    go_wp2_with (go_at_call 149; refine (hn _).mono ?_; rintro e w' ⟨rfl, rfl⟩)
    go_ret
    exact ⟨rfl, rfl⟩
end Nm
end Go.Proofs.YtpneejlilgepfaaGreatDoor
namespace Go.Proofs.YtpneejlilgepfaaGreatDoor
open Go.RowKit
namespace Rt
section
variable {F : Fence} {n : Nat} {P : Program}

/-- How the body of a round may be left: where it goes on, A; where it leaves by c, B c. -/
def leftPost (A : World → Prop) (B : Code → World → Prop) (W : World) : Exit → Act → World → Prop
  | .normal, _, W' => KeepsOthers W W' ∧ A W'
  | .ret, _, W' => KeepsOthers W W' ∧ B .ret W'
  | .exit id, _, W' => KeepsOthers W W' ∧ B (.exit id) W'
  | .goto t, _, W' => KeepsOthers W W' ∧ B (.goto t) W'
  | .panic _, _, _ => False
  | .outgrown, _, _ => False

/-- What the law's own book-keeping turns: a block at or beyond m that holds no cells. -/
def Abides (m : Nat) (X : World → Prop) : Prop := ∀ W l o o', X W → m ≤ l → W.heap[l]? = some o → o.isCells = false → X (W.putObj l o')

theorem range_law {σ : Type} {g : Operand} {ps : Array Tmp} {assign body : Code} {Q : Exit → Act → World → Prop} {a : Act} {w : World}
    (hro : F.round = none) (h1 : 1 ≤ n) {gf : Nat} {lb : Array Value} (hg : a.eval g = .func (.func gf) #[] lb) (hFg : F.fn gf) (eg : ∀ args w, (callFunc gf args).run P w = .ok (.enter gf args) w)
    (encs : σ → Array Value) (hps : ∀ s, (encs s).size = ps.size)
    (I A : σ → World → Prop) (B : Code → World → Prop) (Z : World → Prop)
    (tI : ∀ s, Abides w.heap.size (I s)) (tA : ∀ s, Abides w.heap.size (A s)) (tB : ∀ c, Abides w.heap.size (B c)) (tZ : Abides w.heap.size Z)
    (a₁ : σ → Act)
    (hassign : ∀ (l : Nat) (s : σ) (W : World) (K : Act → World → Prop), K (a₁ s) W →
      assign.wpIn (F.inRound l) (n - 1 - 1) P (Exit.then K (fun _ _ _ => False)) { tmps := (ps.zip (encs s)).foldl (fun t (p, v) => t.setIfInBounds p v) a.tmps, defers := [] } W)
    (hbody : ∀ (l : Nat) (s : σ) (W : World), I s W → body.wpIn (F.inRound l) (n - 1 - 1) P (leftPost (A s) B W) (a₁ s) W)
    (hiter : ∀ (l : Nat) (o o' : Obj) (L : World → Prop) (L' : Code → World → Prop), o.isCells = false → o'.isCells = false →
      (∀ W (x : Addr) v, x.block < w.heap.size → L W → L (W.setCell x v)) → (∀ W, L W → L W.drew) →
      (∀ s W, I s W → L W → YieldAt F (n - 1 - 1) P l (encs s) W fun e W' => (e = .returned (.bool true) ∧ A s W' ∧ L W') ∨ (e = .returned (.bool false) ∧ ∃ c, B c W' ∧ L' c W')) →
      L ((w.alloc o).alloc o') →
      CallsIn F (n - 1) P gf (#[.func (.yield l) #[] #[]] ++ lb) ((w.alloc o).alloc o') fun e W' => (∃ v, e = .returned v) ∧ ((Z W' ∧ L W') ∨ ∃ c, B c W' ∧ L' c W'))
    (hdone : ∀ (D : Nat) (W : World), w.heap.size ≤ D → Z W → W.heap[D]? = some (.deferred (some [])) → Q .normal { a with defers := { target := .collected D, args := #[] } :: a.defers } W)
    (hstop : ∀ (D : Nat) (c : Code) (W : World), w.heap.size ≤ D → B c W → W.heap[D]? = some (.deferred (some [])) → c.wpIn F n P Q { a with defers := { target := .collected D, args := #[] } :: a.defers } W) :
    (Code.rangeFunc g ps assign body).wpIn F n P Q a w := by
  refine wpIn_rangeFunc fun fn hfn => ?_
  rw [hro]
  -- the loop's record in each of its states
  let rec' : LoopState → Option Code → Loop := fun st pe => { state := st, pending := pe, fn, tmps := a.tmps, params := ps, assign, body, defers := w.heap.size }
  have nl : ∀ st pe, (Obj.loop (rec' st pe)).isCells = false := fun _ _ => rfl
  let D := w.heap.size
  let l := w.heap.size + 1
  let W1 := (w.alloc (.deferred (some []))).alloc (.loop (rec' .ready none))
  have hl1 : W1.heap[l]? = some (.loop (rec' .ready none)) := by
    have := World.alloc_heap_new (w.alloc (.deferred (some []))) (.loop (rec' .ready none)); rwa [World.size_alloc] at this
  have hd1 : W1.heap[D]? = some (.deferred (some [])) := (Below.heap_alloc _ _ _ (by simp [D])).trans (World.alloc_heap_new w _)
  refine ⟨l, [{ target := .collected D, args := #[] }], W1, { target := .fn (.func gf) lb, args := #[.func (.yield l) #[] #[]] }, W1, gf, #[.func (.yield l) #[] #[]] ++ lb, W1, run_enterLoop_outer _ _ _ _ _, ?_, ?_, ?_, fun _ => h1, ?_⟩
  · simp only [resolve, hg]; simp [go_sem]
  · intro f' hf'; simp [Target.leads] at hf'; subst hf'; exact hFg
  · simp [invoke, go_sem, eg]
  · refine (hiter l (.deferred (some [])) (.loop (rec' .ready none))
      (fun W => W.heap[l]? = some (.loop (rec' .ready none)) ∧ W.heap[D]? = some (.deferred (some [])))
      (fun c W => W.heap[l]? = some (.loop (rec' .done (some c))) ∧ W.heap[D]? = some (.deferred (some [])))
      rfl rfl
      (fun W x v hx h => ⟨(Below.heap_setCell W x v l (by simp only [l]; omega)).trans h.1, (Below.heap_setCell W x v D (by simp only [D]; omega)).trans h.2⟩)
      (fun W h => h) ?_ ⟨hl1, hd1⟩).mono ?_
    · -- one round
      rintro s W hi ⟨hl, hd⟩
      have hy := run_yield (P := P) (args := encs s) hl (hps s)
      refine ⟨fn, _, assign, body, hy, roundIn_of_wpIn hfn (hassign l s W _ ⟨_, run_beginRound hl rfl, ?_⟩)⟩
      have hlt : l < W.heap.size := (Array.getElem?_eq_some_iff.1 hl).1
      have hDl : D ≠ l := by simp only [D, l]; omega
      refine wpIn_mono (hbody l s _ (tI s W l _ _ hi (by simp only [l]; omega) hl (nl _ _))) ?_
      have fin : ∀ (jump : Option Code) (W3 : World), KeepsOthers (W.putObj l (.loop { rec' .ready none with state := .busy })) W3 →
          W3.heap[l]? = some (.loop { rec' .ready none with state := .busy }) ∧
          (Instr.endRound l jump).run P W3 = .ok (.bool jump.isNone) (W3.putObj l (.loop (rec' (if jump.isNone then .ready else .done) jump))) ∧
          (W3.putObj l (.loop (rec' (if jump.isNone then .ready else .done) jump))).heap[l]? = some (.loop (rec' (if jump.isNone then .ready else .done) jump)) ∧
          (W3.putObj l (.loop (rec' (if jump.isNone then .ready else .done) jump))).heap[D]? = some (.deferred (some [])) := fun jump W3 hk => by
        have h3 := hk.same _ _ (World.putObj_heap_same hlt) rfl
        have d3 := hk.same _ _ ((World.putObj_heap_other (o := .loop { rec' .ready none with state := .busy }) hDl).trans hd) rfl
        exact ⟨h3, run_endRound (P := P) jump h3, World.putObj_heap_same (Array.getElem?_eq_some_iff.1 h3).1, (World.putObj_heap_other hDl).trans d3⟩
      rintro e a3 W3 hp
      cases e with
      | normal =>
        obtain ⟨hk, ha⟩ := hp
        obtain ⟨h3, hr, hl4, hd4⟩ := fin none W3 hk
        exact ⟨_, _, hr, .inl ⟨rfl, tA s W3 l _ _ ha (by simp only [l]; omega) h3 rfl, hl4, hd4⟩⟩
      | ret =>
        obtain ⟨hk, hb⟩ := hp
        obtain ⟨h3, hr, hl4, hd4⟩ := fin (some .ret) W3 hk
        exact ⟨_, _, hr, .inr ⟨rfl, .ret, tB _ W3 l _ _ hb (by simp only [l]; omega) h3 rfl, hl4, hd4⟩⟩
      | exit id =>
        obtain ⟨hk, hb⟩ := hp
        obtain ⟨h3, hr, hl4, hd4⟩ := fin (some (.exit id)) W3 hk
        exact ⟨_, _, hr, .inr ⟨rfl, .exit id, tB _ W3 l _ _ hb (by simp only [l]; omega) h3 rfl, hl4, hd4⟩⟩
      | goto t =>
        obtain ⟨hk, hb⟩ := hp
        obtain ⟨h3, hr, hl4, hd4⟩ := fin (some (.goto t)) W3 hk
        exact ⟨_, _, hr, .inr ⟨rfl, .goto t, tB _ W3 l _ _ hb (by simp only [l]; omega) h3 rfl, hl4, hd4⟩⟩
      | panic ch => exact hp.elim
      | outgrown => exact hp.elim
    · -- behind the iterator
      have hDl : D ≠ l := by simp only [D, l]; omega
      rintro e W2 ⟨⟨v, rfl⟩, ⟨hz, hl, hd⟩ | ⟨c, hb, hl, hd⟩⟩
      · exact ⟨none, _, run_endLoop (P := P) hl (by simp [rec']), hdone D _ (Nat.le_refl _) (tZ W2 l _ _ hz (by simp only [l]; omega) hl rfl) ((World.putObj_heap_other hDl).trans hd)⟩
      · exact ⟨some c, _, run_endLoop (P := P) hl (by simp [rec']), hstop D c _ (Nat.le_refl _) (tB c W2 l _ _ hb (by simp only [l]; omega) hl rfl) ((World.putObj_heap_other hDl).trans hd)⟩
end
end Rt
end Go.Proofs.YtpneejlilgepfaaGreatDoor
namespace Go.Proofs.YtpneejlilgepfaaGreatDoor
open Go.RowKit
set_option linter.unusedVariables false
namespace Bt
open Nm (ret_int ret_bool)
attribute [local go_sem] Oper.semAt_some

/-- The byte that goes out at y; the bytes of a number. -/
def ub (y : Nat) : Nat := if y < 128 then y else y % 128 + 128
def ubytes : Nat → Nat → List Nat
  | 0, y => [y]
  | f + 1, y => if y < 128 then [y] else (y % 128 + 128) :: ubytes f (y / 128)
theorem ub_lt (y : Nat) : ub y < 256 := by unfold ub; split <;> omega

theorem or_all : ∀ r : Fin 256, bits BinOp.or IntKind.u8 (r.val : Int) 128 = ((r.val % 128 + 128 : Nat) : Int) := by decide +kernel
theorem or_128 (y : Nat) (h : 128 ≤ y) : bits BinOp.or IntKind.u8 ((y : Int) % 256) 128 = ((ub y : Nat) : Int) := by
  have := or_all ⟨y % 256, Nat.mod_lt _ (by omega)⟩
  simp only at this
  rw [show ((y : Int) % 256) = ((y % 256 : Nat) : Int) from by omega, this, ub, if_neg (by omega)]
  omega

/-- The iterator's own cell. -/
def OwnX (bx y : Nat) (W : World) : Prop := W.cell? ⟨bx, 0, none⟩ = some (.int .u64 y) ∧ W.frozen? ⟨bx, 0, none⟩ = false

theorem digits_new (x : Nat) (w : World) : Calls Tryz.prog 90 #[.int .u64 x] w fun e w' => e = .returned (.func (.func 120) #[] #[.pointer (some ⟨w.heap.size, 0, none⟩)]) ∧ w.alloc (.cells #[.int .u64 x] 22) = w' := by
  go_enter Tryz.func90, Tryz.ntmps90
  go_wp2_with fail
  go_ret
  exact ⟨rfl, rfl⟩

set_option maxHeartbeats 1000000 in
set_option maxRecDepth 100000 in
theorem iter_in (n : Nat) (hn : 3 ≤ n) (l bx x : Nat) (hx : x < 18446744073709551616) (H I A : Nat × List Nat → World → Prop) (B : Code → World → Prop) (L : World → Prop) (L' : Code → World → Prop)
    (hH : ∀ s W, H s W → OwnX bx s.1 W ∧ s.1 < 18446744073709551616)
    (hHI : ∀ s W, H s W → I s W)
    (hA : ∀ s W, A s W → OwnX bx s.1 W)
    (hAH : ∀ s W, 128 ≤ s.1 → A s W → H (s.1 / 128, s.2 ++ [ub s.1]) (W.setCell ⟨bx, 0, none⟩ (.int .u64 (s.1 / 128 : Nat))))
    (hL : ∀ W v, L W → L (W.setCell ⟨bx, 0, none⟩ v))
    (hY : ∀ s W, I s W → L W → YieldAt Fence.wide (n - 1) Tryz.prog l #[.int .u8 (ub s.1 : Nat)] W fun e W' => (e = .returned (.bool true) ∧ A s W' ∧ L W') ∨ (e = .returned (.bool false) ∧ ∃ c, B c W' ∧ L' c W'))
    (W0 : World) (h0 : H (x, []) W0) (hl0 : L W0) :
    CallsIn Fence.wide n Tryz.prog 120 #[.func (.yield l) #[] #[], .pointer (some ⟨bx, 0, none⟩)] W0 fun e W' => (∃ v, e = .returned v) ∧ (((∃ s, s.1 < 128 ∧ A s W') ∧ L W') ∨ ∃ c, B c W' ∧ L' c W') := by
  refine callsIn_of_wp Tryz.func120 rfl trivial ?_ rfl
  simp only [Tryz.ntmps120, List.size_toArray, List.length_cons, List.length_nil, Nat.reduceAdd, Nat.reduceSub, Array.replicate_succ, Array.replicate_zero, List.push_toArray, List.append_toArray, List.nil_append, List.cons_append]
  gi_wp2
  gi_loopw [12] (fun z W => ∃ s : Nat × List Nat, H s W ∧ L W) (fun _ W => match W.cell? ⟨bx, 0, none⟩ with | some (.int _ v) => v.toNat | _ => 0)
  case atStart => exact ⟨(x, []), h0, hl0⟩
  case round =>
    obtain ⟨s, hh, hl⟩ := hrel
    obtain ⟨⟨c1, c2⟩, hlt⟩ := hH s _ hh
    obtain ⟨fn, tmps, assign, body, hy, hR⟩ := hY s _ (hHI s _ hh) hl
    obtain ⟨y, d⟩ := s
    simp only at c1 hlt
    by_cases hy128 : 128 ≤ y
    · have hor := or_128 y hy128
      have hnext := fun W h => hAH (y, d) W hy128 h
      simp only at hnext
      have hsh : (y : Int) / 128 = ((y / 128 : Nat) : Int) := by omega
      have HH := Lib.hid hh
      clear hh hl
      gi_wp2
      refine ⟨fun _ => by omega, hR.mono ?_⟩
      rintro e W3 (⟨rfl, ha, hl3⟩ | ⟨rfl, c, hb, hl3⟩)
      · obtain ⟨d1, d2⟩ := hA _ _ ha
        simp only at d1
        have HN := Lib.hid (hnext _ ha)
        have HL3 := Lib.hid (hL _ (.int .u64 (y / 128 : Nat)) hl3)
        clear ha hl3
        gi_wp2_with fail
        unfold Oper.wpIn
        simp [go_sem]
        rw [hsh]
        gi_wp2_with fail
        unfold Oper.wpIn
        simp [go_sem, d1, d2]
        gi_wp2_with fail
        go_roundw
        case rel => exact ⟨_, HN.out, HL3.out⟩
        case measure =>
          have hs : (W3.setCell ⟨bx, 0, none⟩ (.int .u64 ((y : Int) / 128))).cell? ⟨bx, 0, none⟩ = some (.int .u64 ((y : Int) / 128)) := World.cell?_setCell_same W3 ⟨bx, 0, none⟩ _ d1
          rw [hs, c1]
          simp
          omega
      · gi_wp2
        refine bodyPost_ret (results_none rfl _ _ _) rfl ?_
        exact ⟨⟨_, rfl⟩, .inr ⟨c, hb, hl3⟩⟩
    · have hub : ub y = y := if_pos (by omega)
      rw [hub] at hy
      have h256 : (y : Int) % 256 = y := by omega
      clear hh hl
      gi_wp2
      refine ⟨fun _ => by omega, hR.mono ?_⟩
      rintro e W3 (⟨rfl, ha, hl3⟩ | ⟨rfl, c, hb, hl3⟩)
      · gi_wp2
        go_end0
        exact ⟨⟨_, rfl⟩, .inl ⟨⟨_, by show y < 128; omega, ha⟩, hl3⟩⟩
      · gi_wp2
        go_end0
        exact ⟨⟨_, rfl⟩, .inr ⟨c, hb, hl3⟩⟩
end Bt
end Go.Proofs.YtpneejlilgepfaaGreatDoor
namespace Go.Proofs.YtpneejlilgepfaaGreatDoor
open Go.RowKit
set_option linter.unusedVariables false
namespace Vt
open Nm (bitsW)

/-- A value: its kind, number, bits, text and list. -/
structure VT where mk ::
  k : Int
  n : Int
  f : Nat
  s : ByteArray
  l : List VT

theorem VT.ind {P : VT → Prop} (h : ∀ k n f s l, (∀ (i : Nat) (hi : i < l.length), P l[i]) → P (.mk k n f s l)) (t : VT) : P t :=
  VT.rec (motive_1 := P) (motive_2 := fun l => ∀ (i : Nat) (hi : i < l.length), P l[i]) (fun k n f s l ih => h k n f s l ih) (fun i hi => absurd hi (by simp))
    (fun t l iht ihl i hi => by
      cases i with
      | zero => exact iht
      | succ j => exact ihl j (by simpa using hi)) t

/-- What a tree comes to, from its leaves up. -/
def VT.fold {α : Type} (g : Int → Int → Nat → ByteArray → List α → α) : VT → α
  | ⟨k, n, f, s, l⟩ => g k n f s (l.map (fun t => t.fold g))

/-- What a value's own fields meet. -/
structure HeadOk (k n : Int) (f : Nat) (s : ByteArray) (m : Nat) : Prop where
  k0 : -9223372036854775808 ≤ k
  k1 : k ≤ 9223372036854775807
  n0 : -9223372036854775808 ≤ n
  n1 : n ≤ 9223372036854775807
  f1 : f < 18446744073709551616
  s1 : s.size ≤ maxLen
  m1 : m ≤ maxLen

/-- In the blocks from lo to hi (without it) a value lies as the tree. 'C i': element i as one value. -/
def Rep (w : World) (lo hi : Nat) (t : VT) : Value → Prop := t.fold fun k n f s r v =>
  ∃ (A : Option Addr) (cap : Nat) (C : Nat → Array Value), v = .agg #[.int .i64 k, .int .i64 n, .float .f64 f, .string s, .slice A r.length cap] ∧ HeadOk k n f s cap ∧ r.length ≤ cap ∧
    (0 < r.length → ∃ b off, A = some ⟨b, off, none⟩ ∧ lo ≤ b ∧ b < hi ∧ ∀ i, i < r.length → ∀ j, j < 5 → w.cell? ⟨b, off + i * 5 + j, none⟩ = (C i)[j]?) ∧
    ∀ i (h : i < r.length), r[i] (.agg (C i))

theorem rep_iff {w : World} {lo hi : Nat} {k n : Int} {f : Nat} {s : ByteArray} {l : List VT} {v : Value} : Rep w lo hi (.mk k n f s l) v ↔
  ∃ (A : Option Addr) (cap : Nat) (C : Nat → Array Value), v = .agg #[.int .i64 k, .int .i64 n, .float .f64 f, .string s, .slice A l.length cap] ∧ HeadOk k n f s cap ∧ l.length ≤ cap ∧
    (0 < l.length → ∃ b off, A = some ⟨b, off, none⟩ ∧ lo ≤ b ∧ b < hi ∧ ∀ i, i < l.length → ∀ j, j < 5 → w.cell? ⟨b, off + i * 5 + j, none⟩ = (C i)[j]?) ∧
    ∀ i (h : i < l.length), Rep w lo hi l[i] (.agg (C i)) := by
  unfold Rep
  rw [VT.fold]
  simp only [List.length_map, List.getElem_map]

theorem Rep.mk {w : World} {lo hi : Nat} (k n : Int) (f : Nat) (s : ByteArray) (l : List VT) (A : Option Addr) (cap : Nat) (C : Nat → Array Value) (ho : HeadOk k n f s cap) (hl : l.length ≤ cap)
      (hc : 0 < l.length → ∃ b off, A = some ⟨b, off, none⟩ ∧ lo ≤ b ∧ b < hi ∧ ∀ i, i < l.length → ∀ j, j < 5 → w.cell? ⟨b, off + i * 5 + j, none⟩ = (C i)[j]?)
      (hr : ∀ i (h : i < l.length), Rep w lo hi l[i] (.agg (C i))) :
      Rep w lo hi (.mk k n f s l) (.agg #[.int .i64 k, .int .i64 n, .float .f64 f, .string s, .slice A l.length cap]) := rep_iff.2 ⟨A, cap, C, rfl, ho, hl, hc, hr⟩

section
variable {w w' : World} {lo hi lo' hi' : Nat} {t : VT} {v : Value}

/-- A value's tree is known by its head; the elements by their index. -/
structure KidsAt (w : World) (lo hi : Nat) (l : List VT) (A : Option Addr) : Prop where
  at_ : 0 < l.length → ∃ b off, A = some ⟨b, off, none⟩ ∧ lo ≤ b ∧ b < hi ∧ ∀ i (h : i < l.length), ∃ k n f s L A' cap,
    l[i] = .mk k n f s L ∧ w.cell? ⟨b, off + i * 5, none⟩ = some (.int .i64 k) ∧ w.cell? ⟨b, off + i * 5 + 1, none⟩ = some (.int .i64 n) ∧ w.cell? ⟨b, off + i * 5 + 2, none⟩ = some (.float .f64 f) ∧
    w.cell? ⟨b, off + i * 5 + 3, none⟩ = some (.string s) ∧ w.cell? ⟨b, off + i * 5 + 4, none⟩ = some (.slice A' L.length cap) ∧ Rep w lo hi l[i] (.agg #[.int .i64 k, .int .i64 n, .float .f64 f, .string s, .slice A' L.length cap])

theorem Rep.open_ (h : Rep w lo hi t v) : ∃ k n f s l A cap, t = .mk k n f s l ∧ v = .agg #[.int .i64 k, .int .i64 n, .float .f64 f, .string s, .slice A l.length cap] ∧ HeadOk k n f s cap ∧ l.length ≤ cap ∧ KidsAt w lo hi l A := by
  obtain ⟨k, n, f, s, l⟩ := t
  obtain ⟨A, cap, C, hv, ho, hl, hc, hr⟩ := rep_iff.1 h
  refine ⟨k, n, f, s, l, A, cap, rfl, hv, ho, hl, ⟨fun hp => ?_⟩⟩
  obtain ⟨b, off, hA, h1, h2, h3⟩ := hc hp
  refine ⟨b, off, hA, h1, h2, fun i hi => ?_⟩
  have hk := hr i hi
  have h0 := h3 i hi
  generalize hC : C i = c at hk h0
  generalize hL : l[i] = t' at hk ⊢
  obtain ⟨k', n', f', s', l'⟩ := t'
  obtain ⟨A', cap', C', hv', ho', hl', hc', hr'⟩ := rep_iff.1 hk
  injection hv' with hv'
  subst hv'
  have e0 := h0 0 (by omega); have e1 := h0 1 (by omega); have e2 := h0 2 (by omega); have e3 := h0 3 (by omega); have e4 := h0 4 (by omega)
  exact ⟨k', n', f', s', l', A', cap', rfl, by simpa using e0, by simpa using e1, by simpa using e2, by simpa using e3, by simpa using e4, .mk k' n' f' s' l' A' cap' C' ho' hl' hc' hr'⟩

theorem Rep.head {k n : Int} {f : Nat} {s : ByteArray} {l : List VT} {v : Value} (h : Rep w lo hi (.mk k n f s l) v) :
    ∃ A cap, v = .agg #[.int .i64 k, .int .i64 n, .float .f64 f, .string s, .slice A l.length cap] ∧ HeadOk k n f s cap ∧ l.length ≤ cap ∧ KidsAt w lo hi l A := by
  obtain ⟨k', n', f', s', l', A, cap, ht, hv, ho, hl, hk⟩ := h.open_
  obtain ⟨rfl, rfl, rfl, rfl, rfl⟩ := VT.mk.inj ht
  exact ⟨A, cap, hv, ho, hl, hk⟩

theorem Rep.keep (h : Rep w lo hi t v) (hk : ∀ b o, lo ≤ b → b < hi → w'.cell? ⟨b, o, none⟩ = w.cell? ⟨b, o, none⟩) : Rep w' lo hi t v := by
  induction t using VT.ind generalizing v with
  | _ k n f s l ih =>
    obtain ⟨A, cap, C, rfl, ho, hl, hc, hr⟩ := rep_iff.1 h
    refine .mk k n f s l A cap C ho hl (fun hp => ?_) (fun i hi => ih i hi (hr i hi))
    obtain ⟨b, off, hA, h1, h2, h3⟩ := hc hp
    exact ⟨b, off, hA, h1, h2, fun i hi j hj => (hk _ _ h1 h2).trans (h3 i hi j hj)⟩

theorem Rep.more (h : Rep w lo hi t v) (h1 : lo' ≤ lo) (h2 : hi ≤ hi') : Rep w lo' hi' t v := by
  induction t using VT.ind generalizing v with
  | _ k n f s l ih =>
    obtain ⟨A, cap, C, rfl, ho, hl, hc, hr⟩ := rep_iff.1 h
    refine .mk k n f s l A cap C ho hl (fun hp => ?_) (fun i hi => ih i hi (hr i hi))
    obtain ⟨b, off, hA, h3, h4, h5⟩ := hc hp
    exact ⟨b, off, hA, by omega, by omega, h5⟩

theorem Rep.later (h : Rep w lo hi t v) (hb : Below hi w w') : Rep w' lo hi t v := h.keep fun b o _ h2 => hb.cell (p := ⟨b, o, none⟩) h2
theorem Rep.drewN (h : Rep w lo hi t v) (n : Nat) : Rep (w.drewN n) lo hi t v := h.keep fun b o _ _ => by simp
theorem Rep.drew (h : Rep w lo hi t v) : Rep w.drew lo hi t v := h.keep fun _ _ _ _ => rfl
theorem Rep.alloc (h : Rep w lo hi t v) (hz : hi ≤ w.heap.size) (o : Obj) : Rep (w.alloc o) lo hi t v := h.keep fun b off _ h2 => World.cell?_alloc_lt w o ⟨b, off, none⟩ (by simp only []; omega)
theorem Rep.setCell (h : Rep w lo hi t v) {p : Addr} (hp : p.block < lo ∨ hi ≤ p.block) (u : Value) : Rep (w.setCell p u) lo hi t v :=
  h.keep fun b o h1 h2 => World.cell?_setCell_other w p ⟨b, o, none⟩ u (fun e => by subst e; simp only [] at hp; omega)

/-- A value without a list. -/
theorem Rep.leaf {k n : Int} {f : Nat} {s : ByteArray} (ho : HeadOk k n f s 0) : Rep w lo hi (.mk k n f s []) (.agg #[.int .i64 k, .int .i64 n, .float .f64 f, .string s, .slice none 0 0]) :=
  .mk k n f s [] none 0 (fun _ => #[]) ho (Nat.le_refl _) (fun h => absurd h (by simp)) (fun i h => absurd h (by simp))

theorem KidsAt.keep {l : List VT} {A : Option Addr} (h : KidsAt w lo hi l A) (hk : ∀ b o, lo ≤ b → b < hi → w'.cell? ⟨b, o, none⟩ = w.cell? ⟨b, o, none⟩) : KidsAt w' lo hi l A := ⟨fun hp => by
  obtain ⟨b, off, hA, h1, h2, h3⟩ := h.at_ hp
  refine ⟨b, off, hA, h1, h2, fun i hi => ?_⟩
  obtain ⟨k, n, f, s, L, A', cap, e, c0, c1, c2, c3, c4, hr⟩ := h3 i hi
  exact ⟨k, n, f, s, L, A', cap, e, (hk _ _ h1 h2).trans c0, (hk _ _ h1 h2).trans c1, (hk _ _ h1 h2).trans c2, (hk _ _ h1 h2).trans c3, (hk _ _ h1 h2).trans c4, hr.keep hk⟩⟩
theorem KidsAt.later {l : List VT} {A : Option Addr} (h : KidsAt w lo hi l A) (hb : Below hi w w') : KidsAt w' lo hi l A := h.keep fun b o _ h2 => hb.cell (p := ⟨b, o, none⟩) h2
theorem KidsAt.drew {l : List VT} {A : Option Addr} (h : KidsAt w lo hi l A) : KidsAt w.drew lo hi l A := h.keep fun _ _ _ _ => rfl
theorem below_drew {B : Nat} {a w : World} (h : Below B a w) : Below B a w.drew := ⟨h.os, h.tape, h.output, h.size, h.block⟩
theorem KidsAt.alloc {l : List VT} {A : Option Addr} (h : KidsAt w lo hi l A) (hz : hi ≤ w.heap.size) (o : Obj) : KidsAt (w.alloc o) lo hi l A := h.keep fun b off _ h2 => World.cell?_alloc_lt w o ⟨b, off, none⟩ (by simp only []; omega)

/-- A value built of its head and its kids. -/
theorem Rep.close {k n : Int} {f : Nat} {s : ByteArray} {l : List VT} {A : Option Addr} {cap : Nat} (ho : HeadOk k n f s cap) (hl : l.length ≤ cap) (hk : KidsAt w lo hi l A) :
    Rep w lo hi (.mk k n f s l) (.agg #[.int .i64 k, .int .i64 n, .float .f64 f, .string s, .slice A l.length cap]) := by
  by_cases hp : 0 < l.length
  · obtain ⟨b, off, hA, h1, h2, h3⟩ := hk.at_ hp
    have h4 : ∀ i : Nat, ∃ C : Array Value, ∀ (h : i < l.length), (∀ j, j < 5 → w.cell? ⟨b, off + i * 5 + j, none⟩ = C[j]?) ∧ Rep w lo hi l[i] (.agg C) := fun i => by
      by_cases h : i < l.length
      · obtain ⟨k, n, f, s, L, A', cap, e, c0, c1, c2, c3, c4, hr⟩ := h3 i h
        refine ⟨_, fun _ => ⟨fun j hj => ?_, hr⟩⟩
        rcases (by omega : j = 0 ∨ j = 1 ∨ j = 2 ∨ j = 3 ∨ j = 4) with rfl | rfl | rfl | rfl | rfl
        all_goals simpa
      · exact ⟨#[], fun h' => absurd h' h⟩
    obtain ⟨C, hC⟩ := Classical.axiomOfChoice h4
    exact .mk k n f s l A cap C ho hl (fun _ => ⟨b, off, hA, h1, h2, fun i hi => (hC i hi).1⟩) (fun i hi => (hC i hi).2)
  · exact .mk k n f s l A cap (fun _ => #[]) ho hl (fun h => absurd h hp) (fun i h => absurd h (by omega))
end

section
open Go.ChangeShapes Go.WideShapes Go.ChangeAt Go.Joins Go.Deep
theorem float_cell {H : Type} {enc : TypeId × Value → H} {P : Program} {W : World} {base : Nat} {spare : Nat → Bool} {held : Bool} {t : TypeId} {k : FloatKind} {v : Value} {y : DataW H × List MemPlace} {n : Nat}
    (ht : P.underlying t = some (.float k)) (h : DataW.trod enc P W base spare held n t [v] = some y) : ∃ b, v = .float k b ∧ (Lit.float k b).wf = true := by
  cases n with
  | zero => simp [DataW.trod] at h
  | succ n =>
    cases v <;> simp [DataW.trod, ht] at h
    all_goals first | exact ⟨_, by rw [← h.1.1], by simpa [h.1.1] using h.1⟩ | (rename_i k' b; by_cases hk : k' = k <;> simp_all)

theorem five (cs : List Value) (h : cs.length = 5) : ∃ a b c d e, cs = [a, b, c, d, e] := by
  match cs, h with
  | [a, b, c, d, e], _ => exact ⟨a, b, c, d, e, rfl⟩

/-- WHATEVER READS AS A VALUE IS A TREE. -/
theorem open_vt {H : Type} {enc : TypeId × Value → H} {W : World} {base : Nat} {spare : Nat → Bool} {held : Bool} : ∀ (fuel : Nat) (cs : List Value) (x : DataW H × List MemPlace),
    DataW.trod enc Tryz.prog W base spare held fuel 41 cs = some x → ∃ t, Rep W base W.heap.size t (.agg cs.toArray) := by
  intro fuel
  induction fuel using Nat.strongRecOn with
  | _ fuel ih =>
    intro cs x h
    have hC : Tryz.prog.cellsOf 41 = 5 := by kernel_rfl
    obtain ⟨xs, n, hn, hx, hlen, hxl, hg⟩ := DataW.trod_struct Tryz.underlying41 h
    obtain ⟨c0, c1, c2, c3, c4, rfl⟩ := five cs (hlen.trans hC)
    have hx : ∀ j : Nat, j < 5 → ∃ y, xs[j]? = some y := fun j hj => ⟨_, List.getElem?_eq_getElem (by rw [hxl]; exact hj)⟩
    obtain ⟨y0, z0⟩ := hx 0 (by omega); obtain ⟨y1, z1⟩ := hx 1 (by omega); obtain ⟨y2, z2⟩ := hx 2 (by omega); obtain ⟨y3, z3⟩ := hx 3 (by omega); obtain ⟨y4, z4⟩ := hx 4 (by omega)
    have g0 := (hg 0 _ rfl).trans z0; have g1 := (hg 1 _ rfl).trans z1; have g2 := (hg 2 _ rfl).trans z2; have g3 := (hg 3 _ rfl).trans z3; have g4 := (hg 4 _ rfl).trans z4
    have k1 : Tryz.prog.cellsOf 3 = 1 := by kernel_rfl
    have k2 : Tryz.prog.cellsOf 2 = 1 := by kernel_rfl
    have k3 : Tryz.prog.cellsOf 38 = 1 := by kernel_rfl
    have k4 : Tryz.prog.cellsOf 9 = 1 := by kernel_rfl
    have k5 : Tryz.prog.cellsOf 39 = 1 := by kernel_rfl
    simp [k1, k2, k3, k4, k5] at g0 g1 g2 g3 g4
    obtain ⟨k, e0, -, w0⟩ := DataW.trod_int Tryz.underlying3 g0
    obtain ⟨m, e1, -, w1⟩ := DataW.trod_int Tryz.underlying2 g1
    obtain ⟨f, e2, w2⟩ := float_cell Tryz.underlying38 g2
    obtain ⟨s, e3, -, w3⟩ := DataW.trod_string Tryz.underlying9 g3
    obtain rfl := List.singleton_inj.1 e0
    obtain rfl := List.singleton_inj.1 e1
    obtain rfl := e2
    obtain rfl := List.singleton_inj.1 e3
    simp [Lit.wf, IntKind.min, IntKind.max, IntKind.bits, IntKind.signed] at w0 w1 w2
    have fl : f < 18446744073709551616 := by simpa [FloatKind.format] using w2
    rcases DataW.trod_slice Tryz.underlying39 g4 with ⟨e4, -⟩ | ⟨a, len, cap, elems, rest, n', hn', e4, -, hb, hl, hm, hel, he, -, -⟩
    · obtain rfl := List.singleton_inj.1 e4
      exact ⟨.mk k m f s [], .leaf ⟨by omega, by omega, by omega, by omega, fl, w3, by unfold maxLen; omega⟩⟩
    · obtain rfl := List.singleton_inj.1 e4
      have h4 : ∀ i : Nat, ∃ tC : VT × Array Value, i < len → (∀ j, j < 5 → W.cell? (a.add (i * 5) |>.add j) = tC.2[j]?) ∧ Rep W base W.heap.size tC.1 (.agg tC.2) := fun i => by
        by_cases hi : i < len
        · have e := he i hi
          rw [List.getElem?_eq_getElem (by omega)] at e
          obtain ⟨cs', q1, q2⟩ := Option.bind_eq_some_iff.1 e
          obtain ⟨t, ht⟩ := ih n' (by omega) cs' _ q2
          rw [hC] at q1
          obtain ⟨_, ql, qc⟩ := World.cells?_some q1
          exact ⟨(t, cs'.toArray), fun _ => ⟨fun j hj => by rw [qc j hj]; simp, ht⟩⟩
        · exact ⟨(.mk 0 0 0 .empty [], #[]), fun h => absurd h hi⟩
      obtain ⟨F, hF⟩ := Classical.axiomOfChoice h4
      have hlen' : ((List.range len).map fun i => (F i).1).length = len := by simp
      refine ⟨.mk k m f s ((List.range len).map fun i => (F i).1), ?_⟩
      have R := Rep.mk (w := W) (lo := base) (hi := W.heap.size) k m f s ((List.range len).map fun i => (F i).1) (some a) cap (fun i => (F i).2) ⟨by omega, by omega, by omega, by omega, fl, w3, hm⟩ (by rw [hlen']; exact hl) ?_ ?_
      · rw [hlen'] at R; exact R
      · intro hp
        rw [hlen'] at hp ⊢
        have h0 := (hF 0 hp).1 0 (by omega)
        obtain ⟨b, off, spot⟩ := a
        have hs : spot = none := by
          have h5 : ∃ u, (F 0).2[0]? = some u := by
            have := (hF 0 hp).2
            generalize F 0 = p at this ⊢
            obtain ⟨p1, p2⟩ := p
            obtain ⟨_, _, _, _, _, _, _, _, hv, -⟩ := this.open_
            injection hv with hv
            subst hv
            exact ⟨_, rfl⟩
          obtain ⟨u, hu⟩ := h5
          rw [hu] at h0
          cases spot with
          | none => rfl
          | some q =>
            simp [Addr.add, World.cell?] at h0
            split at h0 <;> simp at h0
        subst hs
        have hlt : b < W.heap.size := by
          rcases Nat.lt_or_ge b W.heap.size with q | q
          · exact q
          · have h5 : ∃ u, (F 0).2[0]? = some u := by
              have := (hF 0 hp).2
              generalize F 0 = p at this ⊢
              obtain ⟨p1, p2⟩ := p
              obtain ⟨_, _, _, _, _, _, _, _, hv, -⟩ := this.open_
              injection hv with hv
              subst hv
              exact ⟨_, rfl⟩
            obtain ⟨u, hu⟩ := h5
            rw [hu] at h0
            simp [Addr.add, World.cell?, Array.getElem?_eq_none q] at h0
        refine ⟨b, off, rfl, hb, hlt, fun i hi j hj => ?_⟩
        have := (hF i hi).1 j hj
        rw [← this, Go.Deep.add_add, add_plain, Nat.add_assoc]
      · intro i hi
        rw [hlen'] at hi
        simpa using (hF i hi).2
end
end Vt
end Go.Proofs.YtpneejlilgepfaaGreatDoor
