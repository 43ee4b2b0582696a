/- Contracts of package num's arithmetic (Canon, Bits, Of, Scale, Add) and of the reference's. -/
import Derived.Test.YtaahfiopdoinkaaGreatRows
import Derived.Test.YtaahfiopdoinkaaGreatTnac
import Derived.WalkKit
import Derived.WalkLawsBesides
import Derived.WalkSpells
import Derived.RowKit3
import Derived.Outline
import Derived.Lib.Hide
import Derived.Laws.Bits64b
import Derived.Laws.Externs
import Derived.Laws.FloatArith
import Derived.Deep.QuietTactic
import Derived.BigQuiet
import Derived.ChangeArms
import Derived.Below
import Derived.Deep.Draws
import Derived.ProofKit
import Derived.OpenShut
import Derived.Lib.SmallJoins
import Derived.IntWalk
import Derived.Deep.DeepFit
import Derived.Deep.WholeRow
import Derived.Laws.Tables
import Derived.Laws.EntriesVeiled
set_option linter.unusedVariables false
open Go.RowKit
namespace Go.Proofs.YtaahfiopdoinkaaGreat
namespace Nm

theorem ret_int {k : IntKind} {a b : Int} (h : a = b) : Ending.returned (.int k a) = .returned (.int k b) := by rw [h]
theorem ret_bool {a b : Bool} (h : a = b) : Ending.returned (.bool a) = .returned (.bool b) := by rw [h]

theorem run_f64bits (b : Nat) (w : World) : (callFunc 118 #[.float .f64 b]).run Tryz.prog w = .ok (.value (.int .u64 b)) w := by kernel_rfl
theorem run_frombits (b : Int) (w : World) : (callFunc 186 #[.int .u64 b]).run Tryz.prog w = .ok (.value (.float .f64 b.toNat)) w := by kernel_rfl

def pos (b : Nat) : Bool := !Fm.neg b && !Fm.isNan b && decide (b % 2 ^ 63 ≠ 0)

theorem sv_zero : Fm.SV 0 = 0 := by
 have h := Fm.neg_small 0 (by omega)
 unfold Fm.SV; rw [h.1, h.2, Fm.V_zero]; rfl

theorem V_pos {r : Nat} (h : r ≠ 0) : 0 < Fm.V r := by
 have := Fm.V_strict (show 0 < r by omega); omega

def quietW : Nat := 9221120237041090561
def bitsW (b : Nat) : Nat := if Fm.isNan b = true then quietW else b

theorem neq_self (b : Nat) : (FloatKind.f64.format.order b b != some Ordering.eq) = Fm.isNan b := by
 show (Ieee.double.order b b != some Ordering.eq) = Fm.isNan b
 cases hn : Fm.isNan b with
 | true => rw [Fm.order_nan_l b b hn]; rfl
 | false => rw [Fm.order_eq b b hn hn]; simp

end Nm
end Go.Proofs.YtaahfiopdoinkaaGreat
namespace Go.Proofs.YtaahfiopdoinkaaGreat
namespace Vt
open Nm (bitsW)

structure VT where mk ::
 k : Int
 n : Int
 f : Nat
 s : ByteArray
 l : List VT

theorem VT.ind {P : VT → Prop} (h : ∀ k n f s l, (∀ (i : Nat) (hi : i < l.length), P l[i]) → P (.mk k n f s l)) (t : VT) : P t :=
 VT.rec (motive_1 := P) (motive_2 := fun l => ∀ (i : Nat) (hi : i < l.length), P l[i]) (fun k n f s l ih => h k n f s l ih) (fun i hi => absurd hi (by simp))
  (fun t l iht ihl i hi => by
   cases i with
   | zero => exact iht
   | succ j => exact ihl j (by simpa using hi)) t

def VT.fold {α : Type} (g : Int → Int → Nat → ByteArray → List α → α) : VT → α
 | ⟨k, n, f, s, l⟩ => g k n f s (l.map (fun t => t.fold g))

structure HeadOk (k n : Int) (f : Nat) (s : ByteArray) (m : Nat) : Prop where
 k0 : -9223372036854775808 ≤ k
 k1 : k ≤ 9223372036854775807
 n0 : -9223372036854775808 ≤ n
 n1 : n ≤ 9223372036854775807
 f1 : f < 18446744073709551616
 s1 : s.size ≤ maxLen
 m1 : m ≤ maxLen

def Rep (w : World) (lo hi : Nat) (t : VT) : Value → Prop := t.fold fun k n f s r v =>
 ∃ (A : Option Addr) (cap : Nat) (C : Nat → Array Value), v = .agg #[.int .i64 k, .int .i64 n, .float .f64 f, .string s, .slice A r.length cap] ∧ HeadOk k n f s cap ∧ r.length ≤ cap ∧
  (0 < r.length → ∃ b off, A = some ⟨b, off, none⟩ ∧ lo ≤ b ∧ b < hi ∧ ∀ i, i < r.length → ∀ j, j < 5 → w.cell? ⟨b, off + i * 5 + j, none⟩ = (C i)[j]?) ∧
  ∀ i (h : i < r.length), r[i] (.agg (C i))

theorem rep_iff {w : World} {lo hi : Nat} {k n : Int} {f : Nat} {s : ByteArray} {l : List VT} {v : Value} : Rep w lo hi (.mk k n f s l) v ↔
 ∃ (A : Option Addr) (cap : Nat) (C : Nat → Array Value), v = .agg #[.int .i64 k, .int .i64 n, .float .f64 f, .string s, .slice A l.length cap] ∧ HeadOk k n f s cap ∧ l.length ≤ cap ∧
  (0 < l.length → ∃ b off, A = some ⟨b, off, none⟩ ∧ lo ≤ b ∧ b < hi ∧ ∀ i, i < l.length → ∀ j, j < 5 → w.cell? ⟨b, off + i * 5 + j, none⟩ = (C i)[j]?) ∧
  ∀ i (h : i < l.length), Rep w lo hi l[i] (.agg (C i)) := by
 unfold Rep
 rw [VT.fold]
 simp only [List.length_map, List.getElem_map]

theorem Rep.mk {w : World} {lo hi : Nat} (k n : Int) (f : Nat) (s : ByteArray) (l : List VT) (A : Option Addr) (cap : Nat) (C : Nat → Array Value) (ho : HeadOk k n f s cap) (hl : l.length ≤ cap)
   (hc : 0 < l.length → ∃ b off, A = some ⟨b, off, none⟩ ∧ lo ≤ b ∧ b < hi ∧ ∀ i, i < l.length → ∀ j, j < 5 → w.cell? ⟨b, off + i * 5 + j, none⟩ = (C i)[j]?)
   (hr : ∀ i (h : i < l.length), Rep w lo hi l[i] (.agg (C i))) :
   Rep w lo hi (.mk k n f s l) (.agg #[.int .i64 k, .int .i64 n, .float .f64 f, .string s, .slice A l.length cap]) := rep_iff.2 ⟨A, cap, C, rfl, ho, hl, hc, hr⟩

section
variable {w w' : World} {lo hi lo' hi' : Nat} {t : VT} {v : Value}

structure KidsAt (w : World) (lo hi : Nat) (l : List VT) (A : Option Addr) : Prop where
 at_ : 0 < l.length → ∃ b off, A = some ⟨b, off, none⟩ ∧ lo ≤ b ∧ b < hi ∧ ∀ i (h : i < l.length), ∃ k n f s L A' cap,
  l[i] = .mk k n f s L ∧ w.cell? ⟨b, off + i * 5, none⟩ = some (.int .i64 k) ∧ w.cell? ⟨b, off + i * 5 + 1, none⟩ = some (.int .i64 n) ∧ w.cell? ⟨b, off + i * 5 + 2, none⟩ = some (.float .f64 f) ∧
  w.cell? ⟨b, off + i * 5 + 3, none⟩ = some (.string s) ∧ w.cell? ⟨b, off + i * 5 + 4, none⟩ = some (.slice A' L.length cap) ∧ Rep w lo hi l[i] (.agg #[.int .i64 k, .int .i64 n, .float .f64 f, .string s, .slice A' L.length cap])

theorem Rep.open_ (h : Rep w lo hi t v) : ∃ k n f s l A cap, t = .mk k n f s l ∧ v = .agg #[.int .i64 k, .int .i64 n, .float .f64 f, .string s, .slice A l.length cap] ∧ HeadOk k n f s cap ∧ l.length ≤ cap ∧ KidsAt w lo hi l A := by
 obtain ⟨k, n, f, s, l⟩ := t
 obtain ⟨A, cap, C, hv, ho, hl, hc, hr⟩ := rep_iff.1 h
 refine ⟨k, n, f, s, l, A, cap, rfl, hv, ho, hl, ⟨fun hp => ?_⟩⟩
 obtain ⟨b, off, hA, h1, h2, h3⟩ := hc hp
 refine ⟨b, off, hA, h1, h2, fun i hi => ?_⟩
 have hk := hr i hi
 have h0 := h3 i hi
 generalize hC : C i = c at hk h0
 generalize hL : l[i] = t' at hk ⊢
 obtain ⟨k', n', f', s', l'⟩ := t'
 obtain ⟨A', cap', C', hv', ho', hl', hc', hr'⟩ := rep_iff.1 hk
 injection hv' with hv'
 subst hv'
 have e0 := h0 0 (by omega); have e1 := h0 1 (by omega); have e2 := h0 2 (by omega); have e3 := h0 3 (by omega); have e4 := h0 4 (by omega)
 exact ⟨k', n', f', s', l', A', cap', rfl, by simpa using e0, by simpa using e1, by simpa using e2, by simpa using e3, by simpa using e4, .mk k' n' f' s' l' A' cap' C' ho' hl' hc' hr'⟩

theorem Rep.head {k n : Int} {f : Nat} {s : ByteArray} {l : List VT} {v : Value} (h : Rep w lo hi (.mk k n f s l) v) :
  ∃ A cap, v = .agg #[.int .i64 k, .int .i64 n, .float .f64 f, .string s, .slice A l.length cap] ∧ HeadOk k n f s cap ∧ l.length ≤ cap ∧ KidsAt w lo hi l A := by
 obtain ⟨k', n', f', s', l', A, cap, ht, hv, ho, hl, hk⟩ := h.open_
 obtain ⟨rfl, rfl, rfl, rfl, rfl⟩ := VT.mk.inj ht
 exact ⟨A, cap, hv, ho, hl, hk⟩

theorem Rep.keep (h : Rep w lo hi t v) (hk : ∀ b o, lo ≤ b → b < hi → w'.cell? ⟨b, o, none⟩ = w.cell? ⟨b, o, none⟩) : Rep w' lo hi t v := by
 induction t using VT.ind generalizing v with
 | _ k n f s l ih =>
  obtain ⟨A, cap, C, rfl, ho, hl, hc, hr⟩ := rep_iff.1 h
  refine .mk k n f s l A cap C ho hl (fun hp => ?_) (fun i hi => ih i hi (hr i hi))
  obtain ⟨b, off, hA, h1, h2, h3⟩ := hc hp
  exact ⟨b, off, hA, h1, h2, fun i hi j hj => (hk _ _ h1 h2).trans (h3 i hi j hj)⟩

theorem Rep.more (h : Rep w lo hi t v) (h1 : lo' ≤ lo) (h2 : hi ≤ hi') : Rep w lo' hi' t v := by
 induction t using VT.ind generalizing v with
 | _ k n f s l ih =>
  obtain ⟨A, cap, C, rfl, ho, hl, hc, hr⟩ := rep_iff.1 h
  refine .mk k n f s l A cap C ho hl (fun hp => ?_) (fun i hi => ih i hi (hr i hi))
  obtain ⟨b, off, hA, h3, h4, h5⟩ := hc hp
  exact ⟨b, off, hA, by omega, by omega, h5⟩

theorem Rep.later (h : Rep w lo hi t v) (hb : Below hi w w') : Rep w' lo hi t v := h.keep fun b o _ h2 => hb.cell (p := ⟨b, o, none⟩) h2
theorem Rep.drewN (h : Rep w lo hi t v) (n : Nat) : Rep (w.drewN n) lo hi t v := h.keep fun b o _ _ => by simp
theorem Rep.drew (h : Rep w lo hi t v) : Rep w.drew lo hi t v := h.keep fun _ _ _ _ => rfl
theorem Rep.alloc (h : Rep w lo hi t v) (hz : hi ≤ w.heap.size) (o : Obj) : Rep (w.alloc o) lo hi t v := h.keep fun b off _ h2 => World.cell?_alloc_lt w o ⟨b, off, none⟩ (by simp only []; omega)
theorem Rep.setCell (h : Rep w lo hi t v) {p : Addr} (hp : p.block < lo ∨ hi ≤ p.block) (u : Value) : Rep (w.setCell p u) lo hi t v :=
 h.keep fun b o h1 h2 => World.cell?_setCell_other w p ⟨b, o, none⟩ u (fun e => by subst e; simp only [] at hp; omega)

theorem Rep.leaf {k n : Int} {f : Nat} {s : ByteArray} (ho : HeadOk k n f s 0) : Rep w lo hi (.mk k n f s []) (.agg #[.int .i64 k, .int .i64 n, .float .f64 f, .string s, .slice none 0 0]) :=
 .mk k n f s [] none 0 (fun _ => #[]) ho (Nat.le_refl _) (fun h => absurd h (by simp)) (fun i h => absurd h (by simp))

theorem KidsAt.keep {l : List VT} {A : Option Addr} (h : KidsAt w lo hi l A) (hk : ∀ b o, lo ≤ b → b < hi → w'.cell? ⟨b, o, none⟩ = w.cell? ⟨b, o, none⟩) : KidsAt w' lo hi l A := ⟨fun hp => by
 obtain ⟨b, off, hA, h1, h2, h3⟩ := h.at_ hp
 refine ⟨b, off, hA, h1, h2, fun i hi => ?_⟩
 obtain ⟨k, n, f, s, L, A', cap, e, c0, c1, c2, c3, c4, hr⟩ := h3 i hi
 exact ⟨k, n, f, s, L, A', cap, e, (hk _ _ h1 h2).trans c0, (hk _ _ h1 h2).trans c1, (hk _ _ h1 h2).trans c2, (hk _ _ h1 h2).trans c3, (hk _ _ h1 h2).trans c4, hr.keep hk⟩⟩
theorem KidsAt.later {l : List VT} {A : Option Addr} (h : KidsAt w lo hi l A) (hb : Below hi w w') : KidsAt w' lo hi l A := h.keep fun b o _ h2 => hb.cell (p := ⟨b, o, none⟩) h2
theorem KidsAt.drew {l : List VT} {A : Option Addr} (h : KidsAt w lo hi l A) : KidsAt w.drew lo hi l A := h.keep fun _ _ _ _ => rfl
theorem below_drew {B : Nat} {a w : World} (h : Below B a w) : Below B a w.drew := ⟨h.os, h.tape, h.output, h.size, h.block⟩
theorem KidsAt.alloc {l : List VT} {A : Option Addr} (h : KidsAt w lo hi l A) (hz : hi ≤ w.heap.size) (o : Obj) : KidsAt (w.alloc o) lo hi l A := h.keep fun b off _ h2 => World.cell?_alloc_lt w o ⟨b, off, none⟩ (by simp only []; omega)

theorem Rep.close {k n : Int} {f : Nat} {s : ByteArray} {l : List VT} {A : Option Addr} {cap : Nat} (ho : HeadOk k n f s cap) (hl : l.length ≤ cap) (hk : KidsAt w lo hi l A) :
  Rep w lo hi (.mk k n f s l) (.agg #[.int .i64 k, .int .i64 n, .float .f64 f, .string s, .slice A l.length cap]) := by
 by_cases hp : 0 < l.length
 ·obtain ⟨b, off, hA, h1, h2, h3⟩ := hk.at_ hp
  have h4 : ∀ i : Nat, ∃ C : Array Value, ∀ (h : i < l.length), (∀ j, j < 5 → w.cell? ⟨b, off + i * 5 + j, none⟩ = C[j]?) ∧ Rep w lo hi l[i] (.agg C) := fun i => by
   by_cases h : i < l.length
   ·obtain ⟨k, n, f, s, L, A', cap, e, c0, c1, c2, c3, c4, hr⟩ := h3 i h
    refine ⟨_, fun _ => ⟨fun j hj => ?_, hr⟩⟩
    rcases (by omega : j = 0 ∨ j = 1 ∨ j = 2 ∨ j = 3 ∨ j = 4) with rfl | rfl | rfl | rfl | rfl
    all_goals simpa
   ·exact ⟨#[], fun h' => absurd h' h⟩
  obtain ⟨C, hC⟩ := Classical.axiomOfChoice h4
  exact .mk k n f s l A cap C ho hl (fun _ => ⟨b, off, hA, h1, h2, fun i hi => (hC i hi).1⟩) (fun i hi => (hC i hi).2)
 ·exact .mk k n f s l A cap (fun _ => #[]) ho hl (fun h => absurd h hp) (fun i h => absurd h (by omega))
end

section
open Go.ChangeShapes Go.WideShapes Go.ChangeAt Go.Joins Go.Deep
end
end Vt
end Go.Proofs.YtaahfiopdoinkaaGreat
namespace Go.Proofs.YtaahfiopdoinkaaGreat
namespace Vt
open Nm (bitsW)

def VT.valid (t : VT) : Nat → Bool := t.fold fun k n f s r d =>
 decide (0 ≤ k ∧ k ≤ 4) && (k == 1 || n == 0) && (k == 2 || bitsW f == 0) && (k == 3 || s.size == 0) && (k == 4 || r.length == 0) && (k != 4 || d != 0) && r.all (fun v => v (d - 1))

theorem valid_mk (k n : Int) (f : Nat) (s : ByteArray) (l : List VT) (d : Nat) : (VT.mk k n f s l).valid d =
  (decide (0 ≤ k ∧ k ≤ 4) && (k == 1 || n == 0) && (k == 2 || bitsW f == 0) && (k == 3 || s.size == 0) && (k == 4 || l.length == 0) && (k != 4 || d != 0) && l.all (fun t => t.valid (d - 1))) := by
 unfold VT.valid; rw [VT.fold]; simp [List.all_map, Function.comp_def]

theorem all_iff {α : Type} (l : List α) (p : α → Bool) : l.all p = true ↔ ∀ (i : Nat) (hi : i < l.length), p l[i] = true := by
 rw [List.all_eq_true]
 exact ⟨fun h i hi => h _ (List.getElem_mem hi), fun h x hx => by obtain ⟨i, hi, rfl⟩ := List.getElem_of_mem hx; exact h i hi⟩

def VT.same (t : VT) : VT → Bool := t.fold fun k n f s r t' => k == t'.k && n == t'.n && decide (s = t'.s) && bitsW f == bitsW t'.f && r.length == t'.l.length && (r.zip t'.l).all (fun p => p.1 p.2)

theorem same_mk (k n : Int) (f : Nat) (s : ByteArray) (l : List VT) (k' n' : Int) (f' : Nat) (s' : ByteArray) (l' : List VT) : (VT.mk k n f s l).same (.mk k' n' f' s' l') =
  (k == k' && n == n' && decide (s = s') && bitsW f == bitsW f' && l.length == l'.length && (l.zip l').all (fun p => p.1.same p.2)) := by
 unfold VT.same; rw [VT.fold]; simp [List.zip_map_left, List.all_map, Function.comp_def]

theorem zipall_iff (l l' : List VT) : (l.zip l').all (fun p => p.1.same p.2) = true ↔ ∀ (i : Nat) (hi : i < l.length) (hi' : i < l'.length), l[i].same l'[i] = true := by
 rw [all_iff]
 constructor
 ·intro h i hi hi'
  have := h i (by simp; omega)
  rw [List.getElem_zip] at this
  exact this
 ·intro h i hi
  have := h i (by simp at hi; omega) (by simp at hi; omega)
  rw [List.getElem_zip]
  exact this

theorem same_iff (k n : Int) (f : Nat) (s : ByteArray) (l : List VT) (k' n' : Int) (f' : Nat) (s' : ByteArray) (l' : List VT) : (VT.mk k n f s l).same (.mk k' n' f' s' l') = true ↔
  k = k' ∧ n = n' ∧ s = s' ∧ bitsW f = bitsW f' ∧ l.length = l'.length ∧ ∀ (i : Nat) (hi : i < l.length) (hi' : i < l'.length), l[i].same l'[i] = true := by
 rw [same_mk]
 simp only [Bool.and_eq_true, beq_iff_eq, decide_eq_true_iff, zipall_iff, and_assoc]

theorem same_refl (t : VT) : t.same t = true := by
 induction t using VT.ind with
 | _ k n f s l ih => exact (same_iff ..).2 ⟨rfl, rfl, rfl, rfl, rfl, fun i hi _ => ih i hi⟩

theorem same_valid (a : VT) : ∀ (b : VT) (d : Nat), a.same b = true → a.valid d = b.valid d := by
 induction a using VT.ind with
 | _ k n f s l ih =>
  rintro ⟨k', n', f', s', l'⟩ d h
  obtain ⟨rfl, rfl, rfl, hf, hl, hL⟩ := (same_iff ..).1 h
  rw [valid_mk, valid_mk, hf, hl]
  have : l.all (fun t => t.valid (d - 1)) = l'.all (fun t => t.valid (d - 1)) := by
   rw [Bool.eq_iff_iff, all_iff, all_iff]
   constructor
   ·intro h i hi
    rw [← ih i (by omega) _ (d - 1) (hL i (by omega) hi)]
    exact h i _
   ·intro h i hi
    rw [ih i hi _ (d - 1) (hL i hi (by omega))]
    exact h i _
  rw [this]

def VT.weight (t : VT) : Int → Int := t.fold fun _ _ _ s r m => r.foldl (fun n wt => if n ≤ m then n + wt (m - n) else n) (1 + min (s.size : Int) 1000)
def weightL (l : List VT) (n m : Int) : Int := l.foldl (fun n t => if n ≤ m then n + t.weight (m - n) else n) n
theorem weight_mk (k n : Int) (f : Nat) (s : ByteArray) (l : List VT) (m : Int) : (VT.mk k n f s l).weight m = weightL l (1 + min (s.size : Int) 1000) m := by
 unfold VT.weight weightL; rw [VT.fold]; simp [List.foldl_map]; rfl
theorem weightL_nil (n m : Int) : weightL [] n m = n := rfl
theorem weightL_cons (t : VT) (l : List VT) (n m : Int) : weightL (t :: l) n m = if n ≤ m then weightL l (n + t.weight (m - n)) m else n := by
 have stop : ∀ (l : List VT) (n m : Int), ¬ n ≤ m → weightL l n m = n := fun l => by
  induction l with
  | nil => intro n m _; rfl
  | cons t l ih =>
   intro n m h
   have e : weightL (t :: l) n m = weightL l (if n ≤ m then n + t.weight (m - n) else n) m := rfl
   rw [e, if_neg h]; exact ih n m h
 have e : weightL (t :: l) n m = weightL l (if n ≤ m then n + t.weight (m - n) else n) m := rfl
 rw [e]
 split
 ·rfl
 ·exact stop l n m (by assumption)

def VT.small (t : VT) : Nat → Bool := t.fold fun _ _ _ _ r d => d != 0 && r.all (fun v => v (d - 1))
theorem small_mk (k n : Int) (f : Nat) (s : ByteArray) (l : List VT) (d : Nat) : (VT.mk k n f s l).small d = (d != 0 && l.all (fun t => t.small (d - 1))) := by
 unfold VT.small; rw [VT.fold]; simp [List.all_map, Function.comp_def]

theorem weightL_ge (l : List VT) (ih : ∀ (i : Nat) (hi : i < l.length) (m : Int), 1 ≤ l[i].weight m) (n m : Int) : n ≤ weightL l n m := by
 induction l generalizing n with
 | nil => exact Int.le_refl _
 | cons t l h =>
  rw [weightL_cons]
  split
  ·have h1 := h (fun i hi => ih (i + 1) (by simpa using hi)) (n + t.weight (m - n))
   have h2 := ih 0 (by simp) (m - n)
   simp only [List.getElem_cons_zero] at h2
   omega
  ·exact Int.le_refl _
theorem weight_ge (t : VT) : ∀ m : Int, 1 ≤ t.weight m := by
 induction t using VT.ind with
 | _ k n f s l ih =>
  intro m
  rw [weight_mk]
  have := weightL_ge l ih (1 + min (s.size : Int) 1000) m
  omega
theorem weightL_ge' (l : List VT) (n m : Int) : n ≤ weightL l n m := weightL_ge l (fun _ _ => weight_ge _) n m

def VT.few (t : VT) : Bool := decide (t.weight 900 ≤ 900) && t.small 20

theorem weightL_len (l : List VT) (n m : Int) (h : weightL l n m ≤ m) : n + l.length ≤ m ∧ ∀ (i : Nat) (hi : i < l.length), ∃ c : Int, n ≤ c ∧ c + l[i].weight (m - c) ≤ m := by
 induction l generalizing n with
 | nil => rw [weightL_nil] at h; exact ⟨by simpa using h, fun i hi => absurd hi (by simp)⟩
 | cons t l ih =>
  rw [weightL_cons] at h
  by_cases hn : n ≤ m
  ·rw [if_pos hn] at h
   have h1 := weight_ge t (m - n)
   have h2 := weightL_ge' l (n + t.weight (m - n)) m
   obtain ⟨i1, i2⟩ := ih _ h
   refine ⟨by simp only [List.length_cons]; omega, fun i hi => ?_⟩
   cases i with
   | zero => exact ⟨n, by omega, by simp only [List.getElem_cons_zero]; omega⟩
   | succ j =>
    obtain ⟨c, c1, c2⟩ := i2 j (by simpa using hi)
    exact ⟨c, by omega, by simpa using c2⟩
  ·rw [if_neg hn] at h; omega

def VT.Slim (m : Nat) (t : VT) : Prop := t.fold fun _ _ _ s r => s.size ≤ m ∧ r.length ≤ m ∧ ∀ p ∈ r, p
theorem slim_mk {m : Nat} {k n : Int} {f : Nat} {s : ByteArray} {l : List VT} : VT.Slim m (.mk k n f s l) ↔ s.size ≤ m ∧ l.length ≤ m ∧ ∀ (i : Nat) (hi : i < l.length), VT.Slim m l[i] := by
 unfold VT.Slim
 rw [VT.fold]
 simp only [List.length_map, List.mem_map, forall_exists_index, and_imp, forall_apply_eq_imp_iff₂]
 constructor
 ·rintro ⟨h1, h2, h3⟩
  exact ⟨h1, h2, fun i hi => h3 _ (List.getElem_mem hi)⟩
 ·rintro ⟨h1, h2, h3⟩
  exact ⟨h1, h2, fun x hx => by obtain ⟨i, hi, rfl⟩ := List.getElem_of_mem hx; exact h3 i hi⟩

theorem slim_of_weight (t : VT) (M : Nat) (hM : M < 1000) : ∀ m : Int, m ≤ M → t.weight m ≤ m → t.Slim M := by
 induction t using VT.ind with
 | _ k n f s l ih =>
  intro m hm h
  rw [weight_mk] at h
  obtain ⟨h1, h2⟩ := weightL_len l _ m h
  have h3 := weightL_ge' l (1 + min (s.size : Int) 1000) m
  refine slim_mk.2 ⟨by omega, by omega, fun i hi => ?_⟩
  obtain ⟨c, c1, c2⟩ := h2 i hi
  exact ih i hi (m - c) (by omega) (by omega)

theorem slim_of_few (t : VT) (h : t.few = true) : t.Slim 900 := by
 unfold VT.few at h
 rw [Bool.and_eq_true, decide_eq_true_iff] at h
 exact slim_of_weight t 900 (by omega) 900 (by omega) h.1
end Vt
end Go.Proofs.YtaahfiopdoinkaaGreat
namespace Go.Proofs.YtaahfiopdoinkaaGreat
namespace Vt
open Nm (bitsW ret_int ret_bool)

def BoxAt (w : World) (g : Nat) (k n : Int) (f : Nat) (s : ByteArray) (A : Option Addr) (m c : Nat) : Prop :=
 w.heap[g]? = some (.cells #[.int .i64 k, .int .i64 n, .float .f64 f, .string s, .slice A m c] 34 (0, 0))

theorem BoxAt.later {w w' : World} {g B : Nat} {k n : Int} {f : Nat} {s : ByteArray} {A : Option Addr} {m c : Nat} (h : BoxAt w g k n f s A m c) (hb : Below B w w') (hg : g < B) : BoxAt w' g k n f s A m c := (hb.block g hg).trans h
theorem BoxAt.cells {w : World} {g : Nat} {k n : Int} {f : Nat} {s : ByteArray} {A : Option Addr} {m c : Nat} (h : BoxAt w g k n f s A m c) :
  w.cell? ⟨g, 0, none⟩ = some (.int .i64 k) ∧ w.cell? ⟨g, 1, none⟩ = some (.int .i64 n) ∧ w.cell? ⟨g, 2, none⟩ = some (.float .f64 f) ∧ w.cell? ⟨g, 3, none⟩ = some (.string s) ∧ w.cell? ⟨g, 4, none⟩ = some (.slice A m c) := by
 unfold BoxAt at h
 simp [World.cell?, h]
theorem BoxAt.new (w : World) (k n : Int) (f : Nat) (s : ByteArray) (A : Option Addr) (m c : Nat) : BoxAt (w.alloc (.cells #[.int .i64 k, .int .i64 n, .float .f64 f, .string s, .slice A m c] 34)) w.heap.size k n f s A m c := heap_alloc_new w _
theorem BoxAt.lt {w : World} {g : Nat} {k n : Int} {f : Nat} {s : ByteArray} {A : Option Addr} {m c : Nat} (h : BoxAt w g k n f s A m c) : g < w.heap.size := (Array.getElem?_eq_some_iff.1 h).1

theorem all_take_succ {α : Type} (l : List α) (p : α → Bool) (j : Nat) (h : j < l.length) : (l.take (j + 1)).all p = ((l.take j).all p && p l[j]) := by
 rw [List.take_succ_eq_append_getElem h, List.all_append]; simp
theorem all_false {α : Type} (l : List α) (p : α → Bool) (j : Nat) (h : j < l.length) (hp : p l[j] = false) : l.all p = false := by
 rw [Bool.eq_false_iff]
 intro hh
 rw [all_iff] at hh
 rw [hh j h] at hp
 cases hp

end Vt
end Go.Proofs.YtaahfiopdoinkaaGreat
namespace Go.Proofs.YtaahfiopdoinkaaGreat
namespace Ev
open Nm (ret_int ret_bool)

def rowCellsOf (s : ByteArray) (l : List Nat) : Array Value := #[.string s, .bool (l.contains 0), .bool (l.contains 1), .bool (l.contains 2), .bool (l.contains 3), .bool (l.contains 4), .bool (l.contains 5)]

def RowAt (w : World) (g : Nat) (cs : Array Value) : Prop := w.heap[g]? = some (.cells cs 184 (0, 0))
theorem RowAt.cells {w : World} {g : Nat} {a b c d e f h : Value} (r : RowAt w g #[a, b, c, d, e, f, h]) :
  w.cell? ⟨g, 0, none⟩ = some a ∧ w.cell? ⟨g, 1, none⟩ = some b ∧ w.cell? ⟨g, 2, none⟩ = some c ∧ w.cell? ⟨g, 3, none⟩ = some d ∧ w.cell? ⟨g, 4, none⟩ = some e ∧ w.cell? ⟨g, 5, none⟩ = some f ∧ w.cell? ⟨g, 6, none⟩ = some h := by
 unfold RowAt at r; simp [World.cell?, r]
theorem RowAt.free {w : World} {g : Nat} {cs : Array Value} (r : RowAt w g cs) (o : Nat) : w.frozen? ⟨g, o, none⟩ = false := by unfold RowAt at r; simp [World.frozen?, r]
theorem RowAt.lt {w : World} {g : Nat} {cs : Array Value} (r : RowAt w g cs) : g < w.heap.size := (Array.getElem?_eq_some_iff.1 r).1
theorem RowAt.set {w : World} {g : Nat} {cs : Array Value} (r : RowAt w g cs) (o : Nat) (v : Value) : RowAt (w.setCell ⟨g, o, none⟩ v) g (cs.setIfInBounds o v) := by
 unfold RowAt at *; simp [World.setCell, Array.getElem?_modify, r]
theorem RowAt.far {w : World} {g b : Nat} {cs : Array Value} (r : RowAt w g cs) (h : g ≠ b) (o : Nat) (v : Value) : RowAt (w.setCell ⟨b, o, none⟩ v) g cs :=
 (Below.heap_setCell w ⟨b, o, none⟩ v g (by simpa using h)).trans r

theorem contains_take (l : List Nat) (j : Nat) (h : j < l.length) (x : Nat) : (l.take (j + 1)).contains x = ((l.take j).contains x || x == l[j]) := by
 rw [List.take_succ_eq_append_getElem h]
 generalize l.take j = a
 generalize l[j] = b
 rw [Bool.eq_iff_iff]
 simp

theorem row_step (s : ByteArray) (l : List Nat) (j : Nat) (h : j < l.length) (hf : l[j] < 6) : (rowCellsOf s (l.take j)).setIfInBounds (1 + l[j]) (.bool true) = rowCellsOf s (l.take (j + 1)) := by
 have e := contains_take l j h
 unfold rowCellsOf
 rw [e, e, e, e, e, e]
 rcases (by omega : l[j] = 0 ∨ l[j] = 1 ∨ l[j] = 2 ∨ l[j] = 3 ∨ l[j] = 4 ∨ l[j] = 5) with q | q | q | q | q | q
 all_goals
  rw [q]
  simp

set_option maxHeartbeats 1000000 in
theorem with_any (s : ByteArray) (l : List Nat) (hl : l.length ≤ 6) (hf : ∀ (i : Nat) (h : i < l.length), l[i] < 6) (b : Nat) (w : World) (hb : b < w.heap.size) (hc : ∀ (i : Nat) (h : i < l.length), w.cell? ⟨b, i, none⟩ = some (.int .i64 (l[i] : Int))) :
  Calls Tryz.prog 139 #[.string s, .slice (some ⟨b, 0, none⟩) l.length l.length] w fun e w' => e = .returned (.agg (rowCellsOf s l)) ∧ Below w.heap.size w w' := by
 have HF := Lib.hid hf; have HC := Lib.hid hc; clear hf hc
 go_enter Tryz.func139, Tryz.ntmps139
 go_wp2_with fail
 go_loopw [12] (fun i wr => ∃ (j : Nat), j ≤ l.length ∧ i = .int .i64 j ∧ RowAt wr (w.heap.size + 1) (rowCellsOf s (l.take j)) ∧ RowAt wr w.heap.size (rowCellsOf ⟨#[]⟩ []) ∧ Below w.heap.size w wr) (fun i _ => l.length - (intOf i).toNat)
 case atStart =>
  refine ⟨0, by omega, rfl, ?_, ?_, ((Below.refl _ _).alloc (Nat.le_refl _) _).alloc (by simp) _⟩
  ·have := heap_alloc_new (w.alloc (.cells (rowCellsOf ⟨#[]⟩ []) 184)) (.cells (rowCellsOf s []) 184)
   rw [World.size_alloc] at this
   exact this
  ·exact (Below.heap_alloc _ _ _ (by simp)).trans (heap_alloc_new w _)
 case round =>
  obtain ⟨j, hj, rfl, hr, hr0, hbl⟩ := hrel
  have hlt0 := hr.lt
  by_cases hlt : j < l.length
  ·have hcj : wr.cell? ⟨b, j, none⟩ = some (.int .i64 (l[j] : Int)) := (hbl.cell (p := ⟨b, j, none⟩) hb).trans (HC.out j hlt)
   have hfj := HF.out j hlt
   have HS := Lib.hid (row_step s l j hlt hfj)
   have HR := Lib.hid hr; have HR0 := Lib.hid hr0; have HB := Lib.hid hbl
   have hfr := hr.free
   obtain ⟨x, hx⟩ : ∃ x, x = l[j] := ⟨_, rfl⟩
   rw [← hx] at hcj hfj HS
   clear hbl hr0
   unfold rowCellsOf at hr
   obtain ⟨c0, c1, c2, c3, c4, c5, c6⟩ := hr.cells
   clear hr hx
   have HFR := Lib.hid hfr; clear hfr
   have f1 := HFR.out 1; have f2 := HFR.out 2; have f3 := HFR.out 3; have f4 := HFR.out 4; have f5 := HFR.out 5; have f6 := HFR.out 6
   rcases (by omega : x = 0 ∨ x = 1 ∨ x = 2 ∨ x = 3 ∨ x = 4 ∨ x = 5) with rfl | rfl | rfl | rfl | rfl | rfl
   all_goals
    go_wp2_with fail
    go_roundw
    case rel => exact ⟨j + 1, by omega, by go_num, by rw [← HS.out]; exact HR.out.set _ _, HR0.out.far (by omega) _ _, HB.out.setCell (by simp) _⟩
    case measure => simp [intOf]; omega
  ·have hj' : j = l.length := by omega
   subst hj'
   rw [List.take_length] at hr
   have HB := Lib.hid hbl; clear hbl
   have f0 := hr0.free 0; have f1 := hr0.free 1; have f2 := hr0.free 2; have f3 := hr0.free 3; have f4 := hr0.free 4; have f5 := hr0.free 5; have f6 := hr0.free 6
   have HX := Lib.hid (show rowCellsOf s l = rowCellsOf s l from rfl)
   unfold rowCellsOf at hr hr0
   obtain ⟨c0, c1, c2, c3, c4, c5, c6⟩ := hr.cells
   obtain ⟨d0, d1, d2, d3, d4, d5, d6⟩ := hr0.cells
   clear hr hr0
   go_wp2_with fail
   refine bodyPost_ret (v := .agg (rowCellsOf s l)) (by simp [results, Tryz.results139, go_sem, rowCellsOf, d0, d1, d2, d3, d4, d5, d6]) rfl ⟨rfl, ?_⟩
   exact ((((((HB.out.setCell (p := ⟨w.heap.size, 0, none⟩) (Nat.le_refl _) _).setCell (p := ⟨w.heap.size, 1, none⟩) (Nat.le_refl _) _).setCell (p := ⟨w.heap.size, 2, none⟩) (Nat.le_refl _) _).setCell (p := ⟨w.heap.size, 3, none⟩) (Nat.le_refl _) _).setCell (p := ⟨w.heap.size, 4, none⟩) (Nat.le_refl _) _).setCell (p := ⟨w.heap.size, 5, none⟩) (Nat.le_refl _) _).setCell (p := ⟨w.heap.size, 6, none⟩) (Nat.le_refl _) _

def nameOf (k : Nat) : ByteArray := match k with
 | 1 => ⟨#[115, 116, 97, 114, 116, 101, 100]⟩
 | 2 => ⟨#[100, 105, 115, 112, 97, 116, 99, 104, 101, 100]⟩
 | 3 => ⟨#[102, 105, 110, 105, 115, 104, 101, 100]⟩
 | 4 => ⟨#[98, 114, 111, 107, 101, 110]⟩
 | 5 => ⟨#[102, 105, 114, 101, 100]⟩
 | 6 => ⟨#[115, 105, 103, 110, 97, 108]⟩
 | 7 => ⟨#[115, 99, 104, 101, 100, 117, 108, 101, 100]⟩
 | 8 => ⟨#[97, 114, 109, 101, 100]⟩
 | 9 => ⟨#[99, 111, 109, 112, 108, 101, 116, 101, 100]⟩
 | 10 => ⟨#[102, 97, 105, 108, 101, 100]⟩
 | 11 => ⟨#[112, 97, 110, 105, 99, 107, 101, 100]⟩
 | _ => ⟨#[]⟩
def fieldsOf (k : Nat) : List Nat := match k with
 | 1 => [3, 5]
 | 2 => [0, 1, 2]
 | 3 => [0, 1, 5]
 | 4 => [0, 1, 2, 4]
 | 5 => [0]
 | 6 => [3, 4, 5]
 | 7 => [0, 3, 5]
 | 8 => [0, 2]
 | 9 => [5]
 | 10 => [4]
 | 11 => [4]
 | _ => []

theorem with_lit (l : List Nat) (hl : l.length ≤ 6) (hf : ∀ (i : Nat) (h : i < l.length), l[i] < 6) (s : ByteArray) (w : World) (n m : Nat) (L R : Array Value) (hR : rowCellsOf s l = R) (hn : w.heap.size = n) (hm : l.length = m) (hL : L = (l.map fun x : Nat => Value.int .i64 (x : Int)).toArray) :
  Calls Tryz.prog 139 #[.string s, .slice (some ⟨n, 0, none⟩) m m] (w.alloc (.cells L 3)) fun e w' =>
   e = .returned (.agg R) ∧ Below n w w' ∧ n < w'.heap.size := by
 subst hn hm hL hR
 have := with_any s l hl hf w.heap.size (w.alloc (.cells ((l.map fun x : Nat => Value.int .i64 (x : Int)).toArray) 3)) (by simp) (fun i h => by
  rw [World.cell?_alloc_new]; simp [h])
 rw [World.size_alloc] at this
 exact this.mono fun e w' h => ⟨h.1, ((Below.refl _ _).alloc (Nat.le_refl _) _).trans (h.2.mono (by omega)), by have := h.2.size; simp at this; omega⟩
end Ev
end Go.Proofs.YtaahfiopdoinkaaGreat
namespace Go.Proofs.YtaahfiopdoinkaaGreat
namespace Ev
open Nm (ret_int ret_bool)

def tbl : Array Value := #[.string ⟨#[]⟩, .bool false, .bool false, .bool false, .bool false, .bool false, .bool false, .string ⟨#[115, 116, 97, 114, 116, 101, 100]⟩, .bool false, .bool false, .bool false, .bool true, .bool false, .bool true, .string ⟨#[100, 105, 115, 112, 97, 116, 99, 104, 101, 100]⟩, .bool true, .bool true, .bool true, .bool false, .bool false, .bool false, .string ⟨#[102, 105, 110, 105, 115, 104, 101, 100]⟩, .bool true, .bool true, .bool false, .bool false, .bool false, .bool true, .string ⟨#[98, 114, 111, 107, 101, 110]⟩, .bool true, .bool true, .bool true, .bool false, .bool true, .bool false, .string ⟨#[102, 105, 114, 101, 100]⟩, .bool true, .bool false, .bool false, .bool false, .bool false, .bool false, .string ⟨#[115, 105, 103, 110, 97, 108]⟩, .bool false, .bool false, .bool false, .bool true, .bool true, .bool true, .string ⟨#[115, 99, 104, 101, 100, 117, 108, 101, 100]⟩, .bool true, .bool false, .bool false, .bool true, .bool false, .bool true, .string ⟨#[97, 114, 109, 101, 100]⟩, .bool true, .bool false, .bool true, .bool false, .bool false, .bool false, .string ⟨#[99, 111, 109, 112, 108, 101, 116, 101, 100]⟩, .bool false, .bool false, .bool false, .bool false, .bool false, .bool true, .string ⟨#[102, 97, 105, 108, 101, 100]⟩, .bool false, .bool false, .bool false, .bool false, .bool true, .bool false, .string ⟨#[112, 97, 110, 105, 99, 107, 101, 100]⟩, .bool false, .bool false, .bool false, .bool false, .bool true, .bool false]
def ztbl : Array Value := #[.string ⟨#[]⟩, .bool false, .bool false, .bool false, .bool false, .bool false, .bool false, .string ⟨#[]⟩, .bool false, .bool false, .bool false, .bool false, .bool false, .bool false, .string ⟨#[]⟩, .bool false, .bool false, .bool false, .bool false, .bool false, .bool false, .string ⟨#[]⟩, .bool false, .bool false, .bool false, .bool false, .bool false, .bool false, .string ⟨#[]⟩, .bool false, .bool false, .bool false, .bool false, .bool false, .bool false, .string ⟨#[]⟩, .bool false, .bool false, .bool false, .bool false, .bool false, .bool false, .string ⟨#[]⟩, .bool false, .bool false, .bool false, .bool false, .bool false, .bool false, .string ⟨#[]⟩, .bool false, .bool false, .bool false, .bool false, .bool false, .bool false, .string ⟨#[]⟩, .bool false, .bool false, .bool false, .bool false, .bool false, .bool false, .string ⟨#[]⟩, .bool false, .bool false, .bool false, .bool false, .bool false, .bool false, .string ⟨#[]⟩, .bool false, .bool false, .bool false, .bool false, .bool false, .bool false, .string ⟨#[]⟩, .bool false, .bool false, .bool false, .bool false, .bool false, .bool false]

theorem tbl_built : Tryz.prog.built 223 [(1, .agg #[.string ⟨#[115, 116, 97, 114, 116, 101, 100]⟩, .bool false, .bool false, .bool false, .bool true, .bool false, .bool true]), (2, .agg #[.string ⟨#[100, 105, 115, 112, 97, 116, 99, 104, 101, 100]⟩, .bool true, .bool true, .bool true, .bool false, .bool false, .bool false]), (3, .agg #[.string ⟨#[102, 105, 110, 105, 115, 104, 101, 100]⟩, .bool true, .bool true, .bool false, .bool false, .bool false, .bool true]), (4, .agg #[.string ⟨#[98, 114, 111, 107, 101, 110]⟩, .bool true, .bool true, .bool true, .bool false, .bool true, .bool false]), (5, .agg #[.string ⟨#[102, 105, 114, 101, 100]⟩, .bool true, .bool false, .bool false, .bool false, .bool false, .bool false]), (6, .agg #[.string ⟨#[115, 105, 103, 110, 97, 108]⟩, .bool false, .bool false, .bool false, .bool true, .bool true, .bool true]), (7, .agg #[.string ⟨#[115, 99, 104, 101, 100, 117, 108, 101, 100]⟩, .bool true, .bool false, .bool false, .bool true, .bool false, .bool true]), (8, .agg #[.string ⟨#[97, 114, 109, 101, 100]⟩, .bool true, .bool false, .bool true, .bool false, .bool false, .bool false]), (9, .agg #[.string ⟨#[99, 111, 109, 112, 108, 101, 116, 101, 100]⟩, .bool false, .bool false, .bool false, .bool false, .bool false, .bool true]), (10, .agg #[.string ⟨#[102, 97, 105, 108, 101, 100]⟩, .bool false, .bool false, .bool false, .bool false, .bool true, .bool false]), (11, .agg #[.string ⟨#[112, 97, 110, 105, 99, 107, 101, 100]⟩, .bool false, .bool false, .bool false, .bool false, .bool true, .bool false])] = some tbl := by kernel_rfl
theorem tbl_zero : (Tryz.prog.info? 223).map (fun i => (i.zero, i.size)) = some (some (.agg ztbl), 84) := by kernel_rfl

theorem tbl_at (k : Nat) (h1 : 1 ≤ k) (h2 : k ≤ 11) : tbl[k * 7]? = some (.string (nameOf k)) ∧ tbl[k * 7 + 1]? = some (.bool ((fieldsOf k).contains 0)) ∧ tbl[k * 7 + 2]? = some (.bool ((fieldsOf k).contains 1)) ∧ tbl[k * 7 + 3]? = some (.bool ((fieldsOf k).contains 2)) ∧
  tbl[k * 7 + 4]? = some (.bool ((fieldsOf k).contains 3)) ∧ tbl[k * 7 + 5]? = some (.bool ((fieldsOf k).contains 4)) ∧ tbl[k * 7 + 6]? = some (.bool ((fieldsOf k).contains 5)) := by
 rcases (by omega : k = 1 ∨ k = 2 ∨ k = 3 ∨ k = 4 ∨ k = 5 ∨ k = 6 ∨ k = 7 ∨ k = 8 ∨ k = 9 ∨ k = 10 ∨ k = 11) with rfl | rfl | rfl | rfl | rfl | rfl | rfl | rfl | rfl | rfl | rfl
 all_goals exact ⟨rfl, rfl, rfl, rfl, rfl, rfl, rfl⟩

theorem seven_size (w' : World) (B : Nat) (a b c d e f g : Value) : (((((((w'.setCell ⟨B, 0, none⟩ a).setCell ⟨B, 1, none⟩ b).setCell ⟨B, 2, none⟩ c).setCell ⟨B, 3, none⟩ d).setCell ⟨B, 4, none⟩ e).setCell ⟨B, 5, none⟩ f).setCell ⟨B, 6, none⟩ g).heap.size = w'.heap.size := by simp [World.setCell]
theorem seven_below {B : Nat} {w w' : World} (h : Below B w w') (a b c d e f g : Value) :
  Below B w (((((((w'.setCell ⟨B, 0, none⟩ a).setCell ⟨B, 1, none⟩ b).setCell ⟨B, 2, none⟩ c).setCell ⟨B, 3, none⟩ d).setCell ⟨B, 4, none⟩ e).setCell ⟨B, 5, none⟩ f).setCell ⟨B, 6, none⟩ g) :=
 ((((((h.setCell (p := ⟨B, 0, none⟩) (Nat.le_refl _) _).setCell (p := ⟨B, 1, none⟩) (Nat.le_refl _) _).setCell (p := ⟨B, 2, none⟩) (Nat.le_refl _) _).setCell (p := ⟨B, 3, none⟩) (Nat.le_refl _) _).setCell (p := ⟨B, 4, none⟩) (Nat.le_refl _) _).setCell (p := ⟨B, 5, none⟩) (Nat.le_refl _) _).setCell (p := ⟨B, 6, none⟩) (Nat.le_refl _) _

set_option maxRecDepth 100000 in
set_option maxHeartbeats 1000000 in
theorem of_in' (k : Nat) (h1 : 1 ≤ k) (h2 : k ≤ 11) (nm : ByteArray) (b0 b1 b2 b3 b4 b5 : Bool) (t0 : tbl[k * 7]? = some (.string nm)) (t1 : tbl[k * 7 + 1]? = some (.bool b0)) (t2 : tbl[k * 7 + 2]? = some (.bool b1)) (t3 : tbl[k * 7 + 3]? = some (.bool b2)) (t4 : tbl[k * 7 + 4]? = some (.bool b3)) (t5 : tbl[k * 7 + 5]? = some (.bool b4)) (t6 : tbl[k * 7 + 6]? = some (.bool b5)) (w : World) :
  Calls Tryz.prog 104 #[.int .i64 k] w fun e w' => e = .returned (.tuple #[.agg #[.string nm, .bool b0, .bool b1, .bool b2, .bool b3, .bool b4, .bool b5], .bool true]) ∧ Below w.heap.size w w' := by
 have T0 := Lib.hid t0; have T1 := Lib.hid t1; have T2 := Lib.hid t2; have T3 := Lib.hid t3; have T4 := Lib.hid t4; have T5 := Lib.hid t5; have T6 := Lib.hid t6
 clear t0 t1 t2 t3 t4 t5 t6
 have HR0 : Hid (RowAt (w.alloc (.cells (rowCellsOf ⟨#[]⟩ []) 184)) w.heap.size (rowCellsOf ⟨#[]⟩ [])) := Lib.hid (heap_alloc_new w _)
 have HB := Lib.hid ((Below.refl w.heap.size w).alloc (Nat.le_refl _) (.cells #[.string ⟨#[]⟩, .bool false, .bool false, .bool false, .bool false, .bool false, .bool false] 184))
 have W1 := Lib.hid (with_lit [3, 5] (by decide) (by decide))
 have W2 := Lib.hid (with_lit [0, 1, 2] (by decide) (by decide))
 have W3 := Lib.hid (with_lit [0, 1, 5] (by decide) (by decide))
 have W4 := Lib.hid (with_lit [0, 1, 2, 4] (by decide) (by decide))
 have W5 := Lib.hid (with_lit [0] (by decide) (by decide))
 have W6 := Lib.hid (with_lit [3, 4, 5] (by decide) (by decide))
 have W7 := Lib.hid (with_lit [0, 3, 5] (by decide) (by decide))
 have W8 := Lib.hid (with_lit [0, 2] (by decide) (by decide))
 have W9 := Lib.hid (with_lit [5] (by decide) (by decide))
 have W10 := Lib.hid (with_lit [4] (by decide) (by decide))
 have W11 := Lib.hid (with_lit [4] (by decide) (by decide))
 have hbt := tbl_built
 obtain ⟨hzt, hsz⟩ := zero_of_info tbl_zero
 have HSZ := Lib.hid hsz; clear hsz
 go_enter Tryz.func104, Tryz.ntmps104
 go_wp2_with fail
 refine (W1.out _ _ _ _ _ #[.string ⟨#[115, 116, 97, 114, 116, 101, 100]⟩, .bool false, .bool false, .bool false, .bool true, .bool false, .bool true] rfl (by simp) rfl rfl).mono ?_
 rintro e w1 ⟨rfl, hb, hz1⟩
 have B1 := Lib.hid (HB.out.trans (hb.mono (by omega)))
 have hy1 : w.heap.size < w1.heap.size := by omega
 have R1 := Lib.hid (show RowAt w1 w.heap.size _ from (hb.block w.heap.size (by omega)).trans HR0.out)
 clear hb HB HR0
 go_wp2_with fail
 refine (W2.out _ _ _ _ _ #[.string ⟨#[100, 105, 115, 112, 97, 116, 99, 104, 101, 100]⟩, .bool true, .bool true, .bool true, .bool false, .bool false, .bool false] rfl (by rfl) rfl rfl).mono ?_
 rintro e w2 ⟨rfl, hb, hz2⟩
 have B2 := Lib.hid (B1.out.trans (hb.mono (by omega)))
 have hy2 : w.heap.size < w2.heap.size := by omega
 have R2 := Lib.hid (show RowAt w2 w.heap.size _ from (hb.block w.heap.size (by omega)).trans R1.out)
 clear hb B1 R1 W2
 go_wp2_with fail
 refine (W3.out _ _ _ _ _ #[.string ⟨#[102, 105, 110, 105, 115, 104, 101, 100]⟩, .bool true, .bool true, .bool false, .bool false, .bool false, .bool true] rfl (by rfl) rfl rfl).mono ?_
 rintro e w3 ⟨rfl, hb, hz3⟩
 have B3 := Lib.hid (B2.out.trans (hb.mono (by omega)))
 have hy3 : w.heap.size < w3.heap.size := by omega
 have R3 := Lib.hid (show RowAt w3 w.heap.size _ from (hb.block w.heap.size (by omega)).trans R2.out)
 clear hb B2 R2 W3
 go_wp2_with fail
 refine (W4.out _ _ _ _ _ #[.string ⟨#[98, 114, 111, 107, 101, 110]⟩, .bool true, .bool true, .bool true, .bool false, .bool true, .bool false] rfl (by rfl) rfl rfl).mono ?_
 rintro e w4 ⟨rfl, hb, hz4⟩
 have B4 := Lib.hid (B3.out.trans (hb.mono (by omega)))
 have hy4 : w.heap.size < w4.heap.size := by omega
 have R4 := Lib.hid (show RowAt w4 w.heap.size _ from (hb.block w.heap.size (by omega)).trans R3.out)
 clear hb B3 R3 W4
 go_wp2_with fail
 refine (W5.out _ _ _ _ _ #[.string ⟨#[102, 105, 114, 101, 100]⟩, .bool true, .bool false, .bool false, .bool false, .bool false, .bool false] rfl (by rfl) rfl rfl).mono ?_
 rintro e w5 ⟨rfl, hb, hz5⟩
 have B5 := Lib.hid (B4.out.trans (hb.mono (by omega)))
 have hy5 : w.heap.size < w5.heap.size := by omega
 have R5 := Lib.hid (show RowAt w5 w.heap.size _ from (hb.block w.heap.size (by omega)).trans R4.out)
 clear hb B4 R4 W5
 go_wp2_with fail
 refine (W6.out _ _ _ _ _ #[.string ⟨#[115, 105, 103, 110, 97, 108]⟩, .bool false, .bool false, .bool false, .bool true, .bool true, .bool true] rfl (by rfl) rfl rfl).mono ?_
 rintro e w6 ⟨rfl, hb, hz6⟩
 have B6 := Lib.hid (B5.out.trans (hb.mono (by omega)))
 have hy6 : w.heap.size < w6.heap.size := by omega
 have R6 := Lib.hid (show RowAt w6 w.heap.size _ from (hb.block w.heap.size (by omega)).trans R5.out)
 clear hb B5 R5 W6
 go_wp2_with fail
 refine (W7.out _ _ _ _ _ #[.string ⟨#[115, 99, 104, 101, 100, 117, 108, 101, 100]⟩, .bool true, .bool false, .bool false, .bool true, .bool false, .bool true] rfl (by rfl) rfl rfl).mono ?_
 rintro e w7 ⟨rfl, hb, hz7⟩
 have B7 := Lib.hid (B6.out.trans (hb.mono (by omega)))
 have hy7 : w.heap.size < w7.heap.size := by omega
 have R7 := Lib.hid (show RowAt w7 w.heap.size _ from (hb.block w.heap.size (by omega)).trans R6.out)
 clear hb B6 R6 W7
 go_wp2_with fail
 refine (W8.out _ _ _ _ _ #[.string ⟨#[97, 114, 109, 101, 100]⟩, .bool true, .bool false, .bool true, .bool false, .bool false, .bool false] rfl (by rfl) rfl rfl).mono ?_
 rintro e w8 ⟨rfl, hb, hz8⟩
 have B8 := Lib.hid (B7.out.trans (hb.mono (by omega)))
 have hy8 : w.heap.size < w8.heap.size := by omega
 have R8 := Lib.hid (show RowAt w8 w.heap.size _ from (hb.block w.heap.size (by omega)).trans R7.out)
 clear hb B7 R7 W8
 go_wp2_with fail
 refine (W9.out _ _ _ _ _ #[.string ⟨#[99, 111, 109, 112, 108, 101, 116, 101, 100]⟩, .bool false, .bool false, .bool false, .bool false, .bool false, .bool true] rfl (by rfl) rfl rfl).mono ?_
 rintro e w9 ⟨rfl, hb, hz9⟩
 have B9 := Lib.hid (B8.out.trans (hb.mono (by omega)))
 have hy9 : w.heap.size < w9.heap.size := by omega
 have R9 := Lib.hid (show RowAt w9 w.heap.size _ from (hb.block w.heap.size (by omega)).trans R8.out)
 clear hb B8 R8 W9
 go_wp2_with fail
 refine (W10.out _ _ _ _ _ #[.string ⟨#[102, 97, 105, 108, 101, 100]⟩, .bool false, .bool false, .bool false, .bool false, .bool true, .bool false] rfl (by rfl) rfl rfl).mono ?_
 rintro e w10 ⟨rfl, hb, hz10⟩
 have B10 := Lib.hid (B9.out.trans (hb.mono (by omega)))
 have hy10 : w.heap.size < w10.heap.size := by omega
 have R10 := Lib.hid (show RowAt w10 w.heap.size _ from (hb.block w.heap.size (by omega)).trans R9.out)
 clear hb B9 R9 W10
 go_wp2_with fail
 refine (W11.out _ _ _ _ _ #[.string ⟨#[112, 97, 110, 105, 99, 107, 101, 100]⟩, .bool false, .bool false, .bool false, .bool false, .bool true, .bool false] rfl (by rfl) rfl rfl).mono ?_
 rintro e w11 ⟨rfl, hb, hz11⟩
 have B11 := Lib.hid (B10.out.trans (hb.mono (by omega)))
 have hy11 : w.heap.size < w11.heap.size := by omega
 have R11 := Lib.hid (show RowAt w11 w.heap.size _ from (hb.block w.heap.size (by omega)).trans R10.out)
 clear hb B10 R10 W11
 have hset : (w11.alloc (.cells ztbl 223)).setRow w11.heap.size tbl = w11.alloc (.cells tbl 223) := World.setRow_alloc_new ..
 have hrow := heap_alloc_new w11 (.cells ztbl 223)
 have HROW := Lib.hid hrow; clear hrow
 have hres := R11.out
 have f0 := hres.free 0; have f1 := hres.free 1; have f2 := hres.free 2; have f3 := hres.free 3; have f4 := hres.free 4; have f5 := hres.free 5; have f6 := hres.free 6
 unfold rowCellsOf at hres
 obtain ⟨d0, d1, d2, d3, d4, d5, d6⟩ := hres.cells
 clear hres R11 W1
 have t0 := T0.out; have t1 := T1.out; have t2 := T2.out; have t3 := T3.out; have t4 := T4.out; have t5 := T5.out; have t6 := T6.out
 clear T0 T1 T2 T3 T4 T5 T6
 go_wp2_with (first
  | (refine wpList_build rfl 223 _ rfl ?_ ?_)
  | (refine wpList_store_row rfl 223 _ _ rfl w11.heap.size tbl rfl rfl 223 ztbl HROW.out HSZ.out rfl (by kernel_rfl) ?_))
 refine bodyPost_ret (v := .tuple #[.agg #[.string nm, .bool b0, .bool b1, .bool b2, .bool b3, .bool b4, .bool b5], .bool true]) (by simp [results, Tryz.results104, go_sem, d0, d1, d2, d3, d4, d5, d6, hy11]) rfl ⟨rfl, ?_⟩
 exact (seven_below B11.out _ _ _ _ _ _ _).alloc (by rw [seven_size]; omega) _

set_option maxRecDepth 100000 in
set_option maxHeartbeats 1000000 in
theorem of_out (k : Int) (h : k < 1 ∨ 11 < k) (w : World) : Calls Tryz.prog 104 #[.int .i64 k] w fun e w' => e = .returned (.tuple #[.agg #[.string ⟨#[]⟩, .bool false, .bool false, .bool false, .bool false, .bool false, .bool false], .bool false]) ∧ Below w.heap.size w w' := by
 have H := Lib.hid h; clear h
 have HR0 : Hid (RowAt (w.alloc (.cells (rowCellsOf ⟨#[]⟩ []) 184)) w.heap.size (rowCellsOf ⟨#[]⟩ [])) := Lib.hid (heap_alloc_new w _)
 have HB := Lib.hid ((Below.refl w.heap.size w).alloc (Nat.le_refl _) (.cells #[.string ⟨#[]⟩, .bool false, .bool false, .bool false, .bool false, .bool false, .bool false] 184))
 have W1 := Lib.hid (with_lit [3, 5] (by decide) (by decide))
 have W2 := Lib.hid (with_lit [0, 1, 2] (by decide) (by decide))
 have W3 := Lib.hid (with_lit [0, 1, 5] (by decide) (by decide))
 have W4 := Lib.hid (with_lit [0, 1, 2, 4] (by decide) (by decide))
 have W5 := Lib.hid (with_lit [0] (by decide) (by decide))
 have W6 := Lib.hid (with_lit [3, 4, 5] (by decide) (by decide))
 have W7 := Lib.hid (with_lit [0, 3, 5] (by decide) (by decide))
 have W8 := Lib.hid (with_lit [0, 2] (by decide) (by decide))
 have W9 := Lib.hid (with_lit [5] (by decide) (by decide))
 have W10 := Lib.hid (with_lit [4] (by decide) (by decide))
 have W11 := Lib.hid (with_lit [4] (by decide) (by decide))
 have hbt := tbl_built
 obtain ⟨hzt, hsz⟩ := zero_of_info tbl_zero
 have HSZ := Lib.hid hsz; clear hsz
 go_enter Tryz.func104, Tryz.ntmps104
 go_wp2_with fail
 refine (W1.out _ _ _ _ _ #[.string ⟨#[115, 116, 97, 114, 116, 101, 100]⟩, .bool false, .bool false, .bool false, .bool true, .bool false, .bool true] rfl (by simp) rfl rfl).mono ?_
 rintro e w1 ⟨rfl, hb, hz1⟩
 have B1 := Lib.hid (HB.out.trans (hb.mono (by omega)))
 have hy1 : w.heap.size < w1.heap.size := by omega
 have R1 := Lib.hid (show RowAt w1 w.heap.size _ from (hb.block w.heap.size (by omega)).trans HR0.out)
 clear hb HB HR0
 go_wp2_with fail
 refine (W2.out _ _ _ _ _ #[.string ⟨#[100, 105, 115, 112, 97, 116, 99, 104, 101, 100]⟩, .bool true, .bool true, .bool true, .bool false, .bool false, .bool false] rfl (by rfl) rfl rfl).mono ?_
 rintro e w2 ⟨rfl, hb, hz2⟩
 have B2 := Lib.hid (B1.out.trans (hb.mono (by omega)))
 have hy2 : w.heap.size < w2.heap.size := by omega
 have R2 := Lib.hid (show RowAt w2 w.heap.size _ from (hb.block w.heap.size (by omega)).trans R1.out)
 clear hb B1 R1 W2
 go_wp2_with fail
 refine (W3.out _ _ _ _ _ #[.string ⟨#[102, 105, 110, 105, 115, 104, 101, 100]⟩, .bool true, .bool true, .bool false, .bool false, .bool false, .bool true] rfl (by rfl) rfl rfl).mono ?_
 rintro e w3 ⟨rfl, hb, hz3⟩
 have B3 := Lib.hid (B2.out.trans (hb.mono (by omega)))
 have hy3 : w.heap.size < w3.heap.size := by omega
 have R3 := Lib.hid (show RowAt w3 w.heap.size _ from (hb.block w.heap.size (by omega)).trans R2.out)
 clear hb B2 R2 W3
 go_wp2_with fail
 refine (W4.out _ _ _ _ _ #[.string ⟨#[98, 114, 111, 107, 101, 110]⟩, .bool true, .bool true, .bool true, .bool false, .bool true, .bool false] rfl (by rfl) rfl rfl).mono ?_
 rintro e w4 ⟨rfl, hb, hz4⟩
 have B4 := Lib.hid (B3.out.trans (hb.mono (by omega)))
 have hy4 : w.heap.size < w4.heap.size := by omega
 have R4 := Lib.hid (show RowAt w4 w.heap.size _ from (hb.block w.heap.size (by omega)).trans R3.out)
 clear hb B3 R3 W4
 go_wp2_with fail
 refine (W5.out _ _ _ _ _ #[.string ⟨#[102, 105, 114, 101, 100]⟩, .bool true, .bool false, .bool false, .bool false, .bool false, .bool false] rfl (by rfl) rfl rfl).mono ?_
 rintro e w5 ⟨rfl, hb, hz5⟩
 have B5 := Lib.hid (B4.out.trans (hb.mono (by omega)))
 have hy5 : w.heap.size < w5.heap.size := by omega
 have R5 := Lib.hid (show RowAt w5 w.heap.size _ from (hb.block w.heap.size (by omega)).trans R4.out)
 clear hb B4 R4 W5
 go_wp2_with fail
 refine (W6.out _ _ _ _ _ #[.string ⟨#[115, 105, 103, 110, 97, 108]⟩, .bool false, .bool false, .bool false, .bool true, .bool true, .bool true] rfl (by rfl) rfl rfl).mono ?_
 rintro e w6 ⟨rfl, hb, hz6⟩
 have B6 := Lib.hid (B5.out.trans (hb.mono (by omega)))
 have hy6 : w.heap.size < w6.heap.size := by omega
 have R6 := Lib.hid (show RowAt w6 w.heap.size _ from (hb.block w.heap.size (by omega)).trans R5.out)
 clear hb B5 R5 W6
 go_wp2_with fail
 refine (W7.out _ _ _ _ _ #[.string ⟨#[115, 99, 104, 101, 100, 117, 108, 101, 100]⟩, .bool true, .bool false, .bool false, .bool true, .bool false, .bool true] rfl (by rfl) rfl rfl).mono ?_
 rintro e w7 ⟨rfl, hb, hz7⟩
 have B7 := Lib.hid (B6.out.trans (hb.mono (by omega)))
 have hy7 : w.heap.size < w7.heap.size := by omega
 have R7 := Lib.hid (show RowAt w7 w.heap.size _ from (hb.block w.heap.size (by omega)).trans R6.out)
 clear hb B6 R6 W7
 go_wp2_with fail
 refine (W8.out _ _ _ _ _ #[.string ⟨#[97, 114, 109, 101, 100]⟩, .bool true, .bool false, .bool true, .bool false, .bool false, .bool false] rfl (by rfl) rfl rfl).mono ?_
 rintro e w8 ⟨rfl, hb, hz8⟩
 have B8 := Lib.hid (B7.out.trans (hb.mono (by omega)))
 have hy8 : w.heap.size < w8.heap.size := by omega
 have R8 := Lib.hid (show RowAt w8 w.heap.size _ from (hb.block w.heap.size (by omega)).trans R7.out)
 clear hb B7 R7 W8
 go_wp2_with fail
 refine (W9.out _ _ _ _ _ #[.string ⟨#[99, 111, 109, 112, 108, 101, 116, 101, 100]⟩, .bool false, .bool false, .bool false, .bool false, .bool false, .bool true] rfl (by rfl) rfl rfl).mono ?_
 rintro e w9 ⟨rfl, hb, hz9⟩
 have B9 := Lib.hid (B8.out.trans (hb.mono (by omega)))
 have hy9 : w.heap.size < w9.heap.size := by omega
 have R9 := Lib.hid (show RowAt w9 w.heap.size _ from (hb.block w.heap.size (by omega)).trans R8.out)
 clear hb B8 R8 W9
 go_wp2_with fail
 refine (W10.out _ _ _ _ _ #[.string ⟨#[102, 97, 105, 108, 101, 100]⟩, .bool false, .bool false, .bool false, .bool false, .bool true, .bool false] rfl (by rfl) rfl rfl).mono ?_
 rintro e w10 ⟨rfl, hb, hz10⟩
 have B10 := Lib.hid (B9.out.trans (hb.mono (by omega)))
 have hy10 : w.heap.size < w10.heap.size := by omega
 have R10 := Lib.hid (show RowAt w10 w.heap.size _ from (hb.block w.heap.size (by omega)).trans R9.out)
 clear hb B9 R9 W10
 go_wp2_with fail
 refine (W11.out _ _ _ _ _ #[.string ⟨#[112, 97, 110, 105, 99, 107, 101, 100]⟩, .bool false, .bool false, .bool false, .bool false, .bool true, .bool false] rfl (by rfl) rfl rfl).mono ?_
 rintro e w11 ⟨rfl, hb, hz11⟩
 have B11 := Lib.hid (B10.out.trans (hb.mono (by omega)))
 have hy11 : w.heap.size < w11.heap.size := by omega
 have R11 := Lib.hid (show RowAt w11 w.heap.size _ from (hb.block w.heap.size (by omega)).trans R10.out)
 clear hb B10 R10 W11
 have hset : (w11.alloc (.cells ztbl 223)).setRow w11.heap.size tbl = w11.alloc (.cells tbl 223) := World.setRow_alloc_new ..
 have hrow := heap_alloc_new w11 (.cells ztbl 223)
 have HROW := Lib.hid hrow; clear hrow
 have hres := R11.out
 have f0 := hres.free 0; have f1 := hres.free 1; have f2 := hres.free 2; have f3 := hres.free 3; have f4 := hres.free 4; have f5 := hres.free 5; have f6 := hres.free 6
 unfold rowCellsOf at hres
 obtain ⟨d0, d1, d2, d3, d4, d5, d6⟩ := hres.cells
 clear hres R11 W1
 rcases H.out with h | h
 all_goals
  clear H
  go_wp2_with (first
   | (refine wpList_build rfl 223 _ rfl ?_ ?_)
   | (refine wpList_store_row rfl 223 _ _ rfl w11.heap.size tbl rfl rfl 223 ztbl HROW.out HSZ.out rfl (by kernel_rfl) ?_))
  refine bodyPost_ret (v := .tuple #[.agg #[.string ⟨#[]⟩, .bool false, .bool false, .bool false, .bool false, .bool false, .bool false], .bool false]) (by simp [results, Tryz.results104, go_sem, d0, d1, d2, d3, d4, d5, d6, hy11]) rfl ⟨rfl, ?_⟩
  exact (seven_below B11.out _ _ _ _ _ _ _).alloc (by rw [seven_size]; omega) _

theorem of_in (k : Nat) (h1 : 1 ≤ k) (h2 : k ≤ 11) (w : World) : Calls Tryz.prog 104 #[.int .i64 k] w fun e w' => e = .returned (.tuple #[.agg (rowCellsOf (nameOf k) (fieldsOf k)), .bool true]) ∧ Below w.heap.size w w' := by
 obtain ⟨t0, t1, t2, t3, t4, t5, t6⟩ := tbl_at k h1 h2
 exact of_in' k h1 h2 _ _ _ _ _ _ _ t0 t1 t2 t3 t4 t5 t6 w
end Ev
end Go.Proofs.YtaahfiopdoinkaaGreat
namespace Go.Proofs.YtaahfiopdoinkaaGreat
namespace Vt
open Nm (bitsW ret_int ret_bool)

theorem loop_len (s : ByteArray) : ∀ (k i : Nat) (r : List UInt8), s.size - i = k → (ByteArray.toList.loop s i r).length = k + r.length := by
 intro k
 induction k with
 | zero => intro i r h; rw [ByteArray.toList.loop]; rw [if_neg (by omega)]; simp
 | succ k ih => intro i r h; rw [ByteArray.toList.loop]; rw [if_pos (by omega)]; rw [ih _ _ (by omega)]; simp; omega
theorem toList_nil (s : ByteArray) : s.toList = [] ↔ s.size = 0 := by
 rw [← List.length_eq_zero_iff]; unfold ByteArray.toList; rw [loop_len s s.size 0 [] (by omega)]; simp

def Parts (k n : Int) (f : Nat) (s : ByteArray) (l : List VT) (x : Int) : Prop :=
 0 ≤ k ∧ k ≤ 4 ∧ (k = 1 ∨ n = 0) ∧ (k = 2 ∨ bitsW f = 0) ∧ (k = 3 ∨ s.toList = []) ∧ (k = 4 ∨ l.length = 0) ∧ (k = 4 → x ≠ 0) ∧ l.all (fun t => t.valid (x - 1).toNat) = true

theorem parts_iff (k n : Int) (f : Nat) (s : ByteArray) (l : List VT) (x : Int) (hx : 0 ≤ x) : (VT.mk k n f s l).valid x.toNat = true ↔ Parts k n f s l x := by
 rw [valid_mk]
 unfold Parts
 rw [show (x - 1).toNat = x.toNat - 1 from by omega, toList_nil]
 simp only [Bool.and_eq_true, Bool.or_eq_true, decide_eq_true_iff, beq_iff_eq, bne_iff_ne, and_assoc]
 constructor
 ·rintro ⟨a, b, c, d, e, f, g, h⟩
  exact ⟨a, b, c, d, e, f, fun h4 => by rcases g with g | g <;> omega, h⟩
 ·rintro ⟨a, b, c, d, e, f, g, h⟩
  refine ⟨a, b, c, d, e, f, ?_, h⟩
  by_cases h4 : k = 4
  ·right; have := g h4; omega
  ·left; exact h4

theorem parts_false {k n : Int} {f : Nat} {s : ByteArray} {l : List VT} {x : Int} {b : Bool} (h : b = true ↔ Parts k n f s l x) (hp : ¬ Parts k n f s l x) : Ending.returned (.bool false) = .returned (.bool b) := by
 cases b with
 | false => rfl
 | true => exact absurd (h.1 rfl) hp
theorem parts_true {k n : Int} {f : Nat} {s : ByteArray} {l : List VT} {x : Int} {b : Bool} (h : b = true ↔ Parts k n f s l x) (hp : Parts k n f s l x) : Ending.returned (.bool true) = .returned (.bool b) := by
 rw [h.2 hp]

def HeadV (k n : Int) (f : Nat) (s : ByteArray) (m : Nat) : Prop := (k = 1 ∨ n = 0) ∧ (k = 2 ∨ bitsW f = 0) ∧ (k = 3 ∨ s.toList = []) ∧ (k = 4 ∨ m = 0)
theorem headV_of {k n : Int} {f : Nat} {s : ByteArray} {l : List VT} {x : Int} (h : Parts k n f s l x) : HeadV k n f s l.length := ⟨h.2.2.1, h.2.2.2.1, h.2.2.2.2.1, h.2.2.2.2.2.1⟩

theorem box_below (w : World) (k n : Int) (f : Nat) (s : ByteArray) (A : Option Addr) (m c : Nat) : Below w.heap.size w (w.alloc (.cells #[.int .i64 k, .int .i64 n, .float .f64 f, .string s, .slice A m c] 34)) :=
 (Below.refl _ _).alloc (Nat.le_refl _) _

theorem headV_cases {k n : Int} {f : Nat} {s : ByteArray} {m : Nat} (h : HeadV k n f s m) :
  (k = 1 ∧ bitsW f = 0 ∧ s.toList = [] ∧ m = 0) ∨ (k = 2 ∧ n = 0 ∧ s.toList = [] ∧ m = 0) ∨ (k = 3 ∧ n = 0 ∧ bitsW f = 0 ∧ m = 0) ∨ (k = 4 ∧ n = 0 ∧ bitsW f = 0 ∧ s.toList = []) ∨
   (k ≠ 1 ∧ k ≠ 2 ∧ k ≠ 3 ∧ k ≠ 4 ∧ n = 0 ∧ bitsW f = 0 ∧ s.toList = [] ∧ m = 0) := by
 obtain ⟨h1, h2, h3, h4⟩ := h
 by_cases e1 : k = 1
 ·left; exact ⟨e1, by omega, by rcases h3 with h3 | h3; omega; exact h3, by omega⟩
 by_cases e2 : k = 2
 ·right; left; exact ⟨e2, by omega, by rcases h3 with h3 | h3; omega; exact h3, by omega⟩
 by_cases e3 : k = 3
 ·right; right; left; exact ⟨e3, by omega, by omega, by omega⟩
 by_cases e4 : k = 4
 ·right; right; right; left; exact ⟨e4, by omega, by omega, by rcases h3 with h3 | h3; omega; exact h3⟩
 ·right; right; right; right; exact ⟨e1, e2, e3, e4, by omega, by omega, by rcases h3 with h3 | h3; omega; exact h3, by omega⟩

end Vt
end Go.Proofs.YtaahfiopdoinkaaGreat
namespace Go.Proofs.YtaahfiopdoinkaaGreat
namespace Vt
open Nm (bitsW ret_int ret_bool)

def kindV (k : Int) : Value := if k = 0 then .iface 260 (.agg #[]) else if k = 1 then .iface 256 (.agg #[]) else if k = 2 then .iface 257 (.agg #[]) else if k = 3 then .iface 258 (.agg #[]) else if k = 4 then .iface 259 (.agg #[]) else .nilIface

set_option maxRecDepth 100000 in
theorem of_any (k : Int) (w : World) : Calls Tryz.prog 169 #[.int .i64 k] w fun e w' => e = .returned (kindV k) ∧ w = w' := by
 by_cases h : 0 ≤ k ∧ k ≤ 4
 ·rcases (by omega : k = 0 ∨ k = 1 ∨ k = 2 ∨ k = 3 ∨ k = 4) with rfl | rfl | rfl | rfl | rfl
  all_goals
   have k0 : Tryz.prog.concrete 260 = true := by kernel_rfl
   have k1 : Tryz.prog.concrete 256 = true := by kernel_rfl
   have k2 : Tryz.prog.concrete 257 = true := by kernel_rfl
   have k3 : Tryz.prog.concrete 258 = true := by kernel_rfl
   have k4 : Tryz.prog.concrete 259 = true := by kernel_rfl
   have i0 : ∀ w, (Instr.index 261 (.agg #[.iface 260 (.agg #[]), .iface 256 (.agg #[]), .iface 257 (.agg #[]), .iface 258 (.agg #[]), .iface 259 (.agg #[])]) (.int .i64 0)).run Tryz.prog w = .ok (.iface 260 (.agg #[])) w := fun _ => by kernel_rfl
   have i1 : ∀ w, (Instr.index 261 (.agg #[.iface 260 (.agg #[]), .iface 256 (.agg #[]), .iface 257 (.agg #[]), .iface 258 (.agg #[]), .iface 259 (.agg #[])]) (.int .i64 1)).run Tryz.prog w = .ok (.iface 256 (.agg #[])) w := fun _ => by kernel_rfl
   have i2 : ∀ w, (Instr.index 261 (.agg #[.iface 260 (.agg #[]), .iface 256 (.agg #[]), .iface 257 (.agg #[]), .iface 258 (.agg #[]), .iface 259 (.agg #[])]) (.int .i64 2)).run Tryz.prog w = .ok (.iface 257 (.agg #[])) w := fun _ => by kernel_rfl
   have i3 : ∀ w, (Instr.index 261 (.agg #[.iface 260 (.agg #[]), .iface 256 (.agg #[]), .iface 257 (.agg #[]), .iface 258 (.agg #[]), .iface 259 (.agg #[])]) (.int .i64 3)).run Tryz.prog w = .ok (.iface 258 (.agg #[])) w := fun _ => by kernel_rfl
   have i4 : ∀ w, (Instr.index 261 (.agg #[.iface 260 (.agg #[]), .iface 256 (.agg #[]), .iface 257 (.agg #[]), .iface 258 (.agg #[]), .iface 259 (.agg #[])]) (.int .i64 4)).run Tryz.prog w = .ok (.iface 259 (.agg #[])) w := fun _ => by kernel_rfl
   go_enter Tryz.func169, Tryz.ntmps169
   go_wp2_with fail
   go_ret
   exact ⟨rfl, rfl⟩
 ·have hk : kindV k = .nilIface := by unfold kindV; rw [if_neg (by omega), if_neg (by omega), if_neg (by omega), if_neg (by omega), if_neg (by omega)]
  rw [hk]
  have HK := Lib.hid hk; clear hk
  by_cases h0 : k < 0
  ·clear h
   go_enter Tryz.func169, Tryz.ntmps169
   go_wp2_with fail
   go_ret
   exact ⟨rfl, rfl⟩
  ·have h4 : 4 < k := by omega
   clear h
   go_enter Tryz.func169, Tryz.ntmps169
   go_wp2_with fail
   go_ret
   exact ⟨rfl, rfl⟩
theorem kv0 : kindV 0 = .iface 260 (.agg #[]) := rfl
theorem kv1 : kindV 1 = .iface 256 (.agg #[]) := rfl
theorem kv2 : kindV 2 = .iface 257 (.agg #[]) := rfl
theorem kv3 : kindV 3 = .iface 258 (.agg #[]) := rfl
theorem kv4 : kindV 4 = .iface 259 (.agg #[]) := rfl

theorem ta_none_integer (w : World) : (Instr.typeAssert (.iface 260 (.agg #[])) 244 256 true).run Tryz.prog w = .ok (.tuple #[.agg #[], .bool false]) w := by kernel_rfl
theorem ta_none_float (w : World) : (Instr.typeAssert (.iface 260 (.agg #[])) 244 257 true).run Tryz.prog w = .ok (.tuple #[.agg #[], .bool false]) w := by kernel_rfl
theorem ta_none_text (w : World) : (Instr.typeAssert (.iface 260 (.agg #[])) 244 258 true).run Tryz.prog w = .ok (.tuple #[.agg #[], .bool false]) w := by kernel_rfl
theorem ta_none_list (w : World) : (Instr.typeAssert (.iface 260 (.agg #[])) 244 259 true).run Tryz.prog w = .ok (.tuple #[.agg #[], .bool false]) w := by kernel_rfl
theorem ta_integer_integer (w : World) : (Instr.typeAssert (.iface 256 (.agg #[])) 244 256 true).run Tryz.prog w = .ok (.tuple #[.agg #[], .bool true]) w := by kernel_rfl
theorem ta_integer_float (w : World) : (Instr.typeAssert (.iface 256 (.agg #[])) 244 257 true).run Tryz.prog w = .ok (.tuple #[.agg #[], .bool false]) w := by kernel_rfl
theorem ta_integer_text (w : World) : (Instr.typeAssert (.iface 256 (.agg #[])) 244 258 true).run Tryz.prog w = .ok (.tuple #[.agg #[], .bool false]) w := by kernel_rfl
theorem ta_integer_list (w : World) : (Instr.typeAssert (.iface 256 (.agg #[])) 244 259 true).run Tryz.prog w = .ok (.tuple #[.agg #[], .bool false]) w := by kernel_rfl
theorem ta_float_integer (w : World) : (Instr.typeAssert (.iface 257 (.agg #[])) 244 256 true).run Tryz.prog w = .ok (.tuple #[.agg #[], .bool false]) w := by kernel_rfl
theorem ta_float_float (w : World) : (Instr.typeAssert (.iface 257 (.agg #[])) 244 257 true).run Tryz.prog w = .ok (.tuple #[.agg #[], .bool true]) w := by kernel_rfl
theorem ta_float_text (w : World) : (Instr.typeAssert (.iface 257 (.agg #[])) 244 258 true).run Tryz.prog w = .ok (.tuple #[.agg #[], .bool false]) w := by kernel_rfl
theorem ta_float_list (w : World) : (Instr.typeAssert (.iface 257 (.agg #[])) 244 259 true).run Tryz.prog w = .ok (.tuple #[.agg #[], .bool false]) w := by kernel_rfl
theorem ta_text_integer (w : World) : (Instr.typeAssert (.iface 258 (.agg #[])) 244 256 true).run Tryz.prog w = .ok (.tuple #[.agg #[], .bool false]) w := by kernel_rfl
theorem ta_text_float (w : World) : (Instr.typeAssert (.iface 258 (.agg #[])) 244 257 true).run Tryz.prog w = .ok (.tuple #[.agg #[], .bool false]) w := by kernel_rfl
theorem ta_text_text (w : World) : (Instr.typeAssert (.iface 258 (.agg #[])) 244 258 true).run Tryz.prog w = .ok (.tuple #[.agg #[], .bool true]) w := by kernel_rfl
theorem ta_text_list (w : World) : (Instr.typeAssert (.iface 258 (.agg #[])) 244 259 true).run Tryz.prog w = .ok (.tuple #[.agg #[], .bool false]) w := by kernel_rfl
theorem ta_list_integer (w : World) : (Instr.typeAssert (.iface 259 (.agg #[])) 244 256 true).run Tryz.prog w = .ok (.tuple #[.agg #[], .bool false]) w := by kernel_rfl
theorem ta_list_float (w : World) : (Instr.typeAssert (.iface 259 (.agg #[])) 244 257 true).run Tryz.prog w = .ok (.tuple #[.agg #[], .bool false]) w := by kernel_rfl
theorem ta_list_text (w : World) : (Instr.typeAssert (.iface 259 (.agg #[])) 244 258 true).run Tryz.prog w = .ok (.tuple #[.agg #[], .bool false]) w := by kernel_rfl
theorem ta_list_list (w : World) : (Instr.typeAssert (.iface 259 (.agg #[])) 244 259 true).run Tryz.prog w = .ok (.tuple #[.agg #[], .bool true]) w := by kernel_rfl
theorem ta_nil_integer (w : World) : (Instr.typeAssert .nilIface 244 256 true).run Tryz.prog w = .ok (.tuple #[.agg #[], .bool false]) w := by kernel_rfl
theorem ta_nil_float (w : World) : (Instr.typeAssert .nilIface 244 257 true).run Tryz.prog w = .ok (.tuple #[.agg #[], .bool false]) w := by kernel_rfl
theorem ta_nil_text (w : World) : (Instr.typeAssert .nilIface 244 258 true).run Tryz.prog w = .ok (.tuple #[.agg #[], .bool false]) w := by kernel_rfl
theorem ta_nil_list (w : World) : (Instr.typeAssert .nilIface 244 259 true).run Tryz.prog w = .ok (.tuple #[.agg #[], .bool false]) w := by kernel_rfl

theorem run_store_float (P : Program) (w : World) (a : Addr) (m : Mode) (k : FloatKind) (b : Nat) : (store a (.float k b) m).run P w = stored P w a (.float k b) m := run_store P w a _ m rfl
def blankV (k n : Int) (f : Nat) (s : ByteArray) (A : Option Addr) (m c : Nat) : Value :=
 .agg #[.int .i64 k, .int .i64 (if k = 1 then 0 else n), .float .f64 (if k = 2 then 0 else f), .string (if k = 3 then ⟨#[]⟩ else s), if k = 4 then .slice none 0 0 else .slice A m c]

attribute [go_sem] run_store_float
set_option maxRecDepth 100000 in
set_option maxHeartbeats 1000000 in
theorem blank_any (k n : Int) (f : Nat) (s : ByteArray) (A : Option Addr) (m c : Nat) (w : World) :
  Calls Tryz.prog 168 #[.agg #[.int .i64 k, .int .i64 n, .float .f64 f, .string s, .slice A m c]] w fun e w' => e = .returned (blankV k n f s A m c) ∧ Below w.heap.size w w' := by
 have O := Lib.hid of_any
 by_cases h : 0 ≤ k ∧ k ≤ 4
 ·rcases (by omega : k = 0 ∨ k = 1 ∨ k = 2 ∨ k = 3 ∨ k = 4) with rfl | rfl | rfl | rfl | rfl
  ·clear h
   have tinteger := ta_none_integer
   have tfloat := ta_none_float
   have ttext := ta_none_text
   have tlist := ta_none_list
   go_enter Tryz.func168, Tryz.ntmps168
   go_wp2_with fail
   refine (O.out _ _).mono ?_
   rintro e w' ⟨rfl, rfl⟩
   rw [kv0]
   go_wp2_with fail
   refine bodyPost_ret (v := blankV _ n f s A m c) (by simp [results, Tryz.results168, go_sem, blankV]) rfl ⟨rfl, ?_⟩
   exact ((Below.refl _ _).alloc (Nat.le_refl _) _).alloc (by simp) _
  ·clear h
   have tinteger := ta_integer_integer
   have tfloat := ta_integer_float
   have ttext := ta_integer_text
   have tlist := ta_integer_list
   go_enter Tryz.func168, Tryz.ntmps168
   go_wp2_with fail
   refine (O.out _ _).mono ?_
   rintro e w' ⟨rfl, rfl⟩
   rw [kv1]
   go_wp2_with fail
   refine bodyPost_ret (v := blankV _ n f s A m c) (by simp [results, Tryz.results168, go_sem, blankV]) rfl ⟨rfl, ?_⟩
   exact ((Below.refl _ _).alloc (Nat.le_refl _) _).alloc (by simp) _
  ·clear h
   have tinteger := ta_float_integer
   have tfloat := ta_float_float
   have ttext := ta_float_text
   have tlist := ta_float_list
   go_enter Tryz.func168, Tryz.ntmps168
   go_wp2_with fail
   refine (O.out _ _).mono ?_
   rintro e w' ⟨rfl, rfl⟩
   rw [kv2]
   go_wp2_with fail
   refine bodyPost_ret (v := blankV _ n f s A m c) (by simp [results, Tryz.results168, go_sem, blankV]) rfl ⟨rfl, ?_⟩
   exact ((Below.refl _ _).alloc (Nat.le_refl _) _).alloc (by simp) _
  ·clear h
   have tinteger := ta_text_integer
   have tfloat := ta_text_float
   have ttext := ta_text_text
   have tlist := ta_text_list
   go_enter Tryz.func168, Tryz.ntmps168
   go_wp2_with fail
   refine (O.out _ _).mono ?_
   rintro e w' ⟨rfl, rfl⟩
   rw [kv3]
   go_wp2_with fail
   refine bodyPost_ret (v := blankV _ n f s A m c) (by simp [results, Tryz.results168, go_sem, blankV]) rfl ⟨rfl, ?_⟩
   exact ((Below.refl _ _).alloc (Nat.le_refl _) _).alloc (by simp) _
  ·clear h
   have tinteger := ta_list_integer
   have tfloat := ta_list_float
   have ttext := ta_list_text
   have tlist := ta_list_list
   go_enter Tryz.func168, Tryz.ntmps168
   go_wp2_with fail
   refine (O.out _ _).mono ?_
   rintro e w' ⟨rfl, rfl⟩
   rw [kv4]
   go_wp2_with fail
   refine bodyPost_ret (v := blankV _ n f s A m c) (by simp [results, Tryz.results168, go_sem, blankV]) rfl ⟨rfl, ?_⟩
   exact ((Below.refl _ _).alloc (Nat.le_refl _) _).alloc (by simp) _
 ·have hk : kindV k = .nilIface := by unfold kindV; rw [if_neg (by omega), if_neg (by omega), if_neg (by omega), if_neg (by omega), if_neg (by omega)]
  have HK := Lib.hid hk; clear hk
  have HB : Hid (blankV k n f s A m c = .agg #[.int .i64 k, .int .i64 n, .float .f64 f, .string s, .slice A m c]) := Lib.hid (by unfold blankV; rw [if_neg (by omega), if_neg (by omega), if_neg (by omega), if_neg (by omega)])
  clear h
  have tinteger := ta_nil_integer
  have tfloat := ta_nil_float
  have ttext := ta_nil_text
  have tlist := ta_nil_list
  go_enter Tryz.func168, Tryz.ntmps168
  go_wp2_with fail
  refine (O.out _ _).mono ?_
  rintro e w' ⟨rfl, rfl⟩
  rw [HK.out]
  go_wp2_with fail
  rw [HB.out]
  refine bodyPost_ret (v := .agg #[.int .i64 k, .int .i64 n, .float .f64 f, .string s, .slice A m c]) (by simp [results, Tryz.results168, go_sem]) rfl ⟨rfl, ?_⟩
  exact ((Below.refl _ _).alloc (Nat.le_refl _) _).alloc (by simp) _
end Vt
end Go.Proofs.YtaahfiopdoinkaaGreat
namespace Go.Proofs.YtaahfiopdoinkaaGreat
namespace Nm

end Nm
end Go.Proofs.YtaahfiopdoinkaaGreat
namespace Go.Proofs.YtaahfiopdoinkaaGreat
namespace Nm

theorem canon_any (b : Nat) (w : World) : Calls Tryz.prog 180 #[.float .f64 b] w fun e w' => e = .returned (.float .f64 (bitsW b)) ∧ w = w' := by
 have hs := neq_self b
 have hr := fun w => run_frombits 9221120237041090561 w
 unfold bitsW
 cases h : Fm.isNan b with
 | true =>
  rw [h] at hs
  clear h
  go_enter Tryz.func180, Tryz.ntmps180
  go_wp2
  go_ret
  exact ⟨rfl, rfl⟩
 | false =>
  rw [h] at hs
  clear h
  go_enter Tryz.func180, Tryz.ntmps180
  go_wp2
  go_ret
  exact ⟨rfl, rfl⟩

theorem bits_any (b : Nat) (w : World) : Calls Tryz.prog 170 #[.float .f64 b] w fun e w' => e = .returned (.int .u64 (bitsW b)) ∧ w = w' := by
 have hr := fun w => run_f64bits (bitsW b) w
 go_enter Tryz.func170, Tryz.ntmps170
 go_wp2_with (go_at_call 180; refine (canon_any b _).mono ?_; rintro e w' ⟨rfl, rfl⟩)
 go_ret
 exact ⟨rfl, rfl⟩

theorem signbit_any (b : Nat) (hb : b < 18446744073709551616) (w : World) : Calls Tryz.prog 187 #[.float .f64 b] w fun e w' => e = .returned (.bool (Fm.neg b)) ∧ w = w' := by
 have hr := fun w => run_f64bits b w
 have HB := Lib.hid hb; clear hb
 go_enter Tryz.func187, Tryz.ntmps187
 go_wp2
 go_ret
 refine ⟨ret_bool ?_, rfl⟩
 have := HB.out
 unfold Fm.neg wrap64
 rw [Bool.eq_iff_iff]
 simp only [decide_eq_true_eq, beq_iff_eq]
 omega

end Nm
end Go.Proofs.YtaahfiopdoinkaaGreat
namespace Go.Proofs.YtaahfiopdoinkaaGreat
namespace Vt
open Nm (bitsW ret_int ret_bool)

theorem bv0 (n : Int) (f : Nat) (s : ByteArray) (A : Option Addr) (m c : Nat) : blankV 0 n f s A m c = .agg #[.int .i64 0, .int .i64 n, .float .f64 f, .string s, .slice A m c] := by simp [blankV]
theorem bv1 (n : Int) (f : Nat) (s : ByteArray) (A : Option Addr) (m c : Nat) : blankV 1 n f s A m c = .agg #[.int .i64 1, .int .i64 0, .float .f64 f, .string s, .slice A m c] := by simp [blankV]
theorem bv2 (n : Int) (f : Nat) (s : ByteArray) (A : Option Addr) (m c : Nat) : blankV 2 n f s A m c = .agg #[.int .i64 2, .int .i64 n, .float .f64 0, .string s, .slice A m c] := by simp [blankV]
theorem bv3 (n : Int) (f : Nat) (s : ByteArray) (A : Option Addr) (m c : Nat) : blankV 3 n f s A m c = .agg #[.int .i64 3, .int .i64 n, .float .f64 f, .string ⟨#[]⟩, .slice A m c] := by simp [blankV]
theorem bv4 (n : Int) (f : Nat) (s : ByteArray) (A : Option Addr) (m c : Nat) : blankV 4 n f s A m c = .agg #[.int .i64 4, .int .i64 n, .float .f64 f, .string s, .slice none 0 0] := by simp [blankV]

def WalkAt (w : World) (g : Nat) : Prop := w.cell? ⟨g, 0, none⟩ = some (.func (.func 167) #[] #[.pointer (some ⟨g, 0, none⟩)]) ∧ g < w.heap.size
theorem WalkAt.later {w w' : World} {g : Nat} (h : WalkAt w g) (hb : Below w.heap.size w w') : WalkAt w' g := ⟨(hb.cell (p := ⟨g, 0, none⟩) h.2).trans h.1, Nat.lt_of_lt_of_le h.2 hb.size⟩

theorem bits0 : bitsW 0 = 0 := by decide +kernel

set_option maxRecDepth 100000 in
set_option maxHeartbeats 2000000 in
theorem vfail_0 (n : Int) (f : Nat) (s : ByteArray) (m cap : Nat) (A : Option Addr) (h : ¬ HeadV 0 n f s m) (x : Int) (g : Nat) (w : World) :
  Calls Tryz.prog 167 #[.agg #[.int .i64 0, .int .i64 n, .float .f64 f, .string s, .slice A m cap], .int .i64 x, .pointer (some ⟨g, 0, none⟩)] w fun e w' => e = .returned (.bool false) ∧ Below w.heap.size w w' := by
 have H := Lib.hid h; clear h
 have HAB := Lib.hid (box_below w 0 n f s A m cap)
 have HBX := Lib.hid (BoxAt.new w 0 n f s A m cap)
 have BL := blank_any 0 n f s A m cap
 rw [bv0] at BL
 have BL := Lib.hid BL
 have O := Lib.hid (of_any 0)
 rw [kv0] at O
 have BI := Lib.hid (Nm.bits_any)
 go_enter Tryz.func167, Tryz.ntmps167
 go_wp2_with fail
 refine (BL.out _).mono ?_
 rintro e w1 ⟨rfl, hb1⟩
 have hbox := HBX.out.later hb1 (by simp)
 obtain ⟨c0, c1, c2, c3, c4⟩ := hbox.cells
 have hlt := hbox.lt
 have HB1 := Lib.hid (HAB.out.trans (hb1.mono (by simp)))
 clear hbox
 clear hb1 HBX HAB BL
 go_wp2_with fail
 refine (O.out _).mono ?_
 rintro e w' ⟨rfl, rfl⟩
 go_wp2_with (go_at_call 170; refine (BI.out _ _).mono ?_; rintro e w' ⟨rfl, rfl⟩)
 all_goals first
  | (go_ret; exact ⟨rfl, HB1.out.alloc (by omega) _⟩)
  | (exfalso
     refine H.out ⟨?_, ?_, ?_, ?_⟩
     all_goals clear H HB1 O BI
     all_goals first
      | omega
      | (right; assumption)
      | (right; omega))

set_option maxRecDepth 100000 in
set_option maxHeartbeats 2000000 in
theorem vfail_1 (n : Int) (f : Nat) (s : ByteArray) (m cap : Nat) (A : Option Addr) (h : ¬ HeadV 1 n f s m) (x : Int) (g : Nat) (w : World) :
  Calls Tryz.prog 167 #[.agg #[.int .i64 1, .int .i64 n, .float .f64 f, .string s, .slice A m cap], .int .i64 x, .pointer (some ⟨g, 0, none⟩)] w fun e w' => e = .returned (.bool false) ∧ Below w.heap.size w w' := by
 have H := Lib.hid h; clear h
 have HAB := Lib.hid (box_below w 1 n f s A m cap)
 have HBX := Lib.hid (BoxAt.new w 1 n f s A m cap)
 have BL := blank_any 1 n f s A m cap
 rw [bv1] at BL
 have BL := Lib.hid BL
 have O := Lib.hid (of_any 1)
 rw [kv1] at O
 have BI := Lib.hid (Nm.bits_any)
 go_enter Tryz.func167, Tryz.ntmps167
 go_wp2_with fail
 refine (BL.out _).mono ?_
 rintro e w1 ⟨rfl, hb1⟩
 have hbox := HBX.out.later hb1 (by simp)
 obtain ⟨c0, c1, c2, c3, c4⟩ := hbox.cells
 have hlt := hbox.lt
 have HB1 := Lib.hid (HAB.out.trans (hb1.mono (by simp)))
 clear hbox
 clear hb1 HBX HAB BL
 go_wp2_with fail
 refine (O.out _).mono ?_
 rintro e w' ⟨rfl, rfl⟩
 go_wp2_with (go_at_call 170; refine (BI.out _ _).mono ?_; rintro e w' ⟨rfl, rfl⟩)
 all_goals first
  | (go_ret; exact ⟨rfl, HB1.out.alloc (by omega) _⟩)
  | (exfalso
     refine H.out ⟨?_, ?_, ?_, ?_⟩
     all_goals clear H HB1 O BI
     all_goals first
      | omega
      | (right; assumption)
      | (right; omega))

set_option maxRecDepth 100000 in
set_option maxHeartbeats 2000000 in
theorem vfail_2 (n : Int) (f : Nat) (s : ByteArray) (m cap : Nat) (A : Option Addr) (h : ¬ HeadV 2 n f s m) (x : Int) (g : Nat) (w : World) :
  Calls Tryz.prog 167 #[.agg #[.int .i64 2, .int .i64 n, .float .f64 f, .string s, .slice A m cap], .int .i64 x, .pointer (some ⟨g, 0, none⟩)] w fun e w' => e = .returned (.bool false) ∧ Below w.heap.size w w' := by
 have H := Lib.hid h; clear h
 have HAB := Lib.hid (box_below w 2 n f s A m cap)
 have HBX := Lib.hid (BoxAt.new w 2 n f s A m cap)
 have BL := blank_any 2 n f s A m cap
 rw [bv2] at BL
 have BL := Lib.hid BL
 have O := Lib.hid (of_any 2)
 rw [kv2] at O
 have BI := Lib.hid (Nm.bits_any)
 have b00 := bits0
 go_enter Tryz.func167, Tryz.ntmps167
 go_wp2_with fail
 refine (BL.out _).mono ?_
 rintro e w1 ⟨rfl, hb1⟩
 have hbox := HBX.out.later hb1 (by simp)
 obtain ⟨c0, c1, c2, c3, c4⟩ := hbox.cells
 have hlt := hbox.lt
 have HB1 := Lib.hid (HAB.out.trans (hb1.mono (by simp)))
 clear hbox
 clear hb1 HBX HAB BL
 go_wp2_with fail
 refine (O.out _).mono ?_
 rintro e w' ⟨rfl, rfl⟩
 go_wp2_with (go_at_call 170; refine (BI.out _ _).mono ?_; rintro e w' ⟨rfl, rfl⟩)
 all_goals first
  | (go_ret; exact ⟨rfl, HB1.out.alloc (by omega) _⟩)
  | (exfalso
     refine H.out ⟨?_, ?_, ?_, ?_⟩
     all_goals clear H HB1 O BI
     all_goals first
      | omega
      | (right; assumption)
      | (right; omega))

set_option maxRecDepth 100000 in
set_option maxHeartbeats 2000000 in
theorem vfail_3 (n : Int) (f : Nat) (s : ByteArray) (m cap : Nat) (A : Option Addr) (h : ¬ HeadV 3 n f s m) (x : Int) (g : Nat) (w : World) :
  Calls Tryz.prog 167 #[.agg #[.int .i64 3, .int .i64 n, .float .f64 f, .string s, .slice A m cap], .int .i64 x, .pointer (some ⟨g, 0, none⟩)] w fun e w' => e = .returned (.bool false) ∧ Below w.heap.size w w' := by
 have H := Lib.hid h; clear h
 have HAB := Lib.hid (box_below w 3 n f s A m cap)
 have HBX := Lib.hid (BoxAt.new w 3 n f s A m cap)
 have BL := blank_any 3 n f s A m cap
 rw [bv3] at BL
 have BL := Lib.hid BL
 have O := Lib.hid (of_any 3)
 rw [kv3] at O
 have BI := Lib.hid (Nm.bits_any)
 go_enter Tryz.func167, Tryz.ntmps167
 go_wp2_with fail
 refine (BL.out _).mono ?_
 rintro e w1 ⟨rfl, hb1⟩
 have hbox := HBX.out.later hb1 (by simp)
 obtain ⟨c0, c1, c2, c3, c4⟩ := hbox.cells
 have hlt := hbox.lt
 have HB1 := Lib.hid (HAB.out.trans (hb1.mono (by simp)))
 clear hbox
 clear hb1 HBX HAB BL
 go_wp2_with fail
 refine (O.out _).mono ?_
 rintro e w' ⟨rfl, rfl⟩
 go_wp2_with (go_at_call 170; refine (BI.out _ _).mono ?_; rintro e w' ⟨rfl, rfl⟩)
 all_goals first
  | (go_ret; exact ⟨rfl, HB1.out.alloc (by omega) _⟩)
  | (exfalso
     refine H.out ⟨?_, ?_, ?_, ?_⟩
     all_goals clear H HB1 O BI
     all_goals first
      | omega
      | (right; assumption)
      | (right; omega))

set_option maxRecDepth 100000 in
set_option maxHeartbeats 2000000 in
theorem vfail_4 (n : Int) (f : Nat) (s : ByteArray) (m cap : Nat) (A : Option Addr) (h : ¬ HeadV 4 n f s m) (x : Int) (g : Nat) (w : World) :
  Calls Tryz.prog 167 #[.agg #[.int .i64 4, .int .i64 n, .float .f64 f, .string s, .slice A m cap], .int .i64 x, .pointer (some ⟨g, 0, none⟩)] w fun e w' => e = .returned (.bool false) ∧ Below w.heap.size w w' := by
 have H := Lib.hid h; clear h
 have HAB := Lib.hid (box_below w 4 n f s A m cap)
 have HBX := Lib.hid (BoxAt.new w 4 n f s A m cap)
 have BL := blank_any 4 n f s A m cap
 rw [bv4] at BL
 have BL := Lib.hid BL
 have O := Lib.hid (of_any 4)
 rw [kv4] at O
 have BI := Lib.hid (Nm.bits_any)
 go_enter Tryz.func167, Tryz.ntmps167
 go_wp2_with fail
 refine (BL.out _).mono ?_
 rintro e w1 ⟨rfl, hb1⟩
 have hbox := HBX.out.later hb1 (by simp)
 obtain ⟨c0, c1, c2, c3, c4⟩ := hbox.cells
 have hlt := hbox.lt
 have HB1 := Lib.hid (HAB.out.trans (hb1.mono (by simp)))
 clear hbox
 clear hb1 HBX HAB BL
 go_wp2_with fail
 refine (O.out _).mono ?_
 rintro e w' ⟨rfl, rfl⟩
 go_wp2_with (go_at_call 170; refine (BI.out _ _).mono ?_; rintro e w' ⟨rfl, rfl⟩)
 all_goals first
  | (go_ret; exact ⟨rfl, HB1.out.alloc (by omega) _⟩)
  | (exfalso
     refine H.out ⟨?_, ?_, ?_, ?_⟩
     all_goals clear H HB1 O BI
     all_goals first
      | omega
      | (right; assumption)
      | (right; omega))

set_option maxRecDepth 100000 in
set_option maxHeartbeats 1000000 in
theorem vpass_0 (f : Nat) (s : ByteArray) (hb0 : bitsW f = 0) (hs0 : s.toList = []) (A : Option Addr) (cap : Nat) (x : Int) (g : Nat) (w : World) :
  Calls Tryz.prog 167 #[.agg #[.int .i64 0, .int .i64 0, .float .f64 f, .string s, .slice A 0 cap], .int .i64 x, .pointer (some ⟨g, 0, none⟩)] w fun e w' => e = .returned (.bool true) ∧ Below w.heap.size w w' := by
 have HAB := Lib.hid (box_below w 0 0 f s A 0 cap)
 have HBX := Lib.hid (BoxAt.new w 0 0 f s A 0 cap)
 have BL := blank_any 0 0 f s A 0 cap
 rw [bv0] at BL
 have BL := Lib.hid BL
 have O := Lib.hid (of_any 0)
 rw [kv0] at O
 have BI := Lib.hid (Nm.bits_any)
 go_enter Tryz.func167, Tryz.ntmps167
 go_wp2_with fail
 refine (BL.out _).mono ?_
 rintro e w1 ⟨rfl, hb1⟩
 have hbox := HBX.out.later hb1 (by simp)
 obtain ⟨c0, c1, c2, c3, c4⟩ := hbox.cells
 have hlt := hbox.lt
 have HB1 := Lib.hid (HAB.out.trans (hb1.mono (by simp)))
 clear hbox
 clear hb1 HBX HAB BL
 go_wp2_with fail
 refine (O.out _).mono ?_
 rintro e w' ⟨rfl, rfl⟩
 go_wp2_with (go_at_call 170; refine (BI.out _ _).mono ?_; rintro e w' ⟨rfl, rfl⟩)
 go_loop [49] (fun i => i = .int .i64 0) (fun _ => 0)
 case atStart => exact rfl
 case round =>
  subst hrel
  go_wp2_with fail
  go_ret
  exact ⟨rfl, HB1.out.alloc (by omega) _⟩

set_option maxRecDepth 100000 in
set_option maxHeartbeats 1000000 in
theorem vpass_1 (n : Int) (f : Nat) (s : ByteArray) (hb0 : bitsW f = 0) (hs0 : s.toList = []) (A : Option Addr) (cap : Nat) (x : Int) (g : Nat) (w : World) :
  Calls Tryz.prog 167 #[.agg #[.int .i64 1, .int .i64 n, .float .f64 f, .string s, .slice A 0 cap], .int .i64 x, .pointer (some ⟨g, 0, none⟩)] w fun e w' => e = .returned (.bool true) ∧ Below w.heap.size w w' := by
 have HAB := Lib.hid (box_below w 1 n f s A 0 cap)
 have HBX := Lib.hid (BoxAt.new w 1 n f s A 0 cap)
 have BL := blank_any 1 n f s A 0 cap
 rw [bv1] at BL
 have BL := Lib.hid BL
 have O := Lib.hid (of_any 1)
 rw [kv1] at O
 have BI := Lib.hid (Nm.bits_any)
 go_enter Tryz.func167, Tryz.ntmps167
 go_wp2_with fail
 refine (BL.out _).mono ?_
 rintro e w1 ⟨rfl, hb1⟩
 have hbox := HBX.out.later hb1 (by simp)
 obtain ⟨c0, c1, c2, c3, c4⟩ := hbox.cells
 have hlt := hbox.lt
 have HB1 := Lib.hid (HAB.out.trans (hb1.mono (by simp)))
 clear hbox
 clear hb1 HBX HAB BL
 go_wp2_with fail
 refine (O.out _).mono ?_
 rintro e w' ⟨rfl, rfl⟩
 go_wp2_with (go_at_call 170; refine (BI.out _ _).mono ?_; rintro e w' ⟨rfl, rfl⟩)
 go_loop [49] (fun i => i = .int .i64 0) (fun _ => 0)
 case atStart => exact rfl
 case round =>
  subst hrel
  go_wp2_with fail
  go_ret
  exact ⟨rfl, HB1.out.alloc (by omega) _⟩

set_option maxRecDepth 100000 in
set_option maxHeartbeats 1000000 in
theorem vpass_2 (f : Nat) (s : ByteArray) (hs0 : s.toList = []) (A : Option Addr) (cap : Nat) (x : Int) (g : Nat) (w : World) :
  Calls Tryz.prog 167 #[.agg #[.int .i64 2, .int .i64 0, .float .f64 f, .string s, .slice A 0 cap], .int .i64 x, .pointer (some ⟨g, 0, none⟩)] w fun e w' => e = .returned (.bool true) ∧ Below w.heap.size w w' := by
 have HAB := Lib.hid (box_below w 2 0 f s A 0 cap)
 have HBX := Lib.hid (BoxAt.new w 2 0 f s A 0 cap)
 have BL := blank_any 2 0 f s A 0 cap
 rw [bv2] at BL
 have BL := Lib.hid BL
 have O := Lib.hid (of_any 2)
 rw [kv2] at O
 have BI := Lib.hid (Nm.bits_any)
 have b00 := bits0
 go_enter Tryz.func167, Tryz.ntmps167
 go_wp2_with fail
 refine (BL.out _).mono ?_
 rintro e w1 ⟨rfl, hb1⟩
 have hbox := HBX.out.later hb1 (by simp)
 obtain ⟨c0, c1, c2, c3, c4⟩ := hbox.cells
 have hlt := hbox.lt
 have HB1 := Lib.hid (HAB.out.trans (hb1.mono (by simp)))
 clear hbox
 clear hb1 HBX HAB BL
 go_wp2_with fail
 refine (O.out _).mono ?_
 rintro e w' ⟨rfl, rfl⟩
 go_wp2_with (go_at_call 170; refine (BI.out _ _).mono ?_; rintro e w' ⟨rfl, rfl⟩)
 go_loop [49] (fun i => i = .int .i64 0) (fun _ => 0)
 case atStart => exact rfl
 case round =>
  subst hrel
  go_wp2_with fail
  go_ret
  exact ⟨rfl, HB1.out.alloc (by omega) _⟩

set_option maxRecDepth 100000 in
set_option maxHeartbeats 1000000 in
theorem vpass_3 (f : Nat) (s : ByteArray) (hb0 : bitsW f = 0) (A : Option Addr) (cap : Nat) (x : Int) (g : Nat) (w : World) :
  Calls Tryz.prog 167 #[.agg #[.int .i64 3, .int .i64 0, .float .f64 f, .string s, .slice A 0 cap], .int .i64 x, .pointer (some ⟨g, 0, none⟩)] w fun e w' => e = .returned (.bool true) ∧ Below w.heap.size w w' := by
 have HAB := Lib.hid (box_below w 3 0 f s A 0 cap)
 have HBX := Lib.hid (BoxAt.new w 3 0 f s A 0 cap)
 have BL := blank_any 3 0 f s A 0 cap
 rw [bv3] at BL
 have BL := Lib.hid BL
 have O := Lib.hid (of_any 3)
 rw [kv3] at O
 have BI := Lib.hid (Nm.bits_any)
 go_enter Tryz.func167, Tryz.ntmps167
 go_wp2_with fail
 refine (BL.out _).mono ?_
 rintro e w1 ⟨rfl, hb1⟩
 have hbox := HBX.out.later hb1 (by simp)
 obtain ⟨c0, c1, c2, c3, c4⟩ := hbox.cells
 have hlt := hbox.lt
 have HB1 := Lib.hid (HAB.out.trans (hb1.mono (by simp)))
 clear hbox
 clear hb1 HBX HAB BL
 go_wp2_with fail
 refine (O.out _).mono ?_
 rintro e w' ⟨rfl, rfl⟩
 go_wp2_with (go_at_call 170; refine (BI.out _ _).mono ?_; rintro e w' ⟨rfl, rfl⟩)
 go_loop [49] (fun i => i = .int .i64 0) (fun _ => 0)
 case atStart => exact rfl
 case round =>
  subst hrel
  go_wp2_with fail
  go_ret
  exact ⟨rfl, HB1.out.alloc (by omega) _⟩

set_option maxRecDepth 100000 in
set_option maxHeartbeats 2000000 in
theorem vlist (f : Nat) (s : ByteArray) (l : List VT) (A : Option Addr) (cap : Nat) (hb0 : bitsW f = 0) (hs0 : s.toList = []) (hl : l.length ≤ cap) (hc : cap ≤ maxLen) (x : Int) (hx0 : 0 ≤ x) (hx1 : x ≤ 8) (g : Nat)
  (ih : ∀ (i : Nat) (hi : i < l.length) (x : Int) (_ : 0 ≤ x) (_ : x ≤ 8) (w : World) (lo hi : Nat) (v : Value) (_ : Rep w lo hi l[i] v) (_ : hi ≤ w.heap.size) (_ : WalkAt w g),
   Calls Tryz.prog 167 #[v, .int .i64 x, .pointer (some ⟨g, 0, none⟩)] w fun e w' => e = .returned (.bool (l[i].valid x.toNat)) ∧ Below w.heap.size w w')
  (w : World) (lo hi : Nat) (hk : KidsAt w lo hi l A) (hz : hi ≤ w.heap.size) (hw : WalkAt w g) :
  Calls Tryz.prog 167 #[.agg #[.int .i64 4, .int .i64 0, .float .f64 f, .string s, .slice A l.length cap], .int .i64 x, .pointer (some ⟨g, 0, none⟩)] w fun e w' =>
   e = .returned (.bool (decide (x ≠ 0) && l.all (fun t => t.valid (x - 1).toNat))) ∧ Below w.heap.size w w' := by
 unfold maxLen at hc
 have IH := Lib.hid ih; have HK := Lib.hid hk; clear ih hk
 have HWK := Lib.hid hw; clear hw
 by_cases hx : x = 0
 ·subst hx
  have HAB := Lib.hid (box_below w 4 0 f s A l.length cap)
  have HBX := Lib.hid (BoxAt.new w 4 0 f s A l.length cap)
  have BL := blank_any 4 0 f s A l.length cap
  rw [bv4] at BL
  have BL := Lib.hid BL
  have O := Lib.hid (of_any 4)
  rw [kv4] at O
  have BI := Lib.hid (Nm.bits_any)
  go_enter Tryz.func167, Tryz.ntmps167
  go_wp2_with fail
  refine (BL.out _).mono ?_
  rintro e w1 ⟨rfl, hb1⟩
  have hbox := HBX.out.later hb1 (by simp)
  obtain ⟨c0, c1, c2, c3, c4⟩ := hbox.cells
  have hlt := hbox.lt
  have HB1 := Lib.hid (HAB.out.trans (hb1.mono (by simp)))
  clear hbox
  clear hb1 HBX HAB BL
  go_wp2_with fail
  refine (O.out _).mono ?_
  rintro e w' ⟨rfl, rfl⟩
  go_wp2_with (go_at_call 170; refine (BI.out _ _).mono ?_; rintro e w' ⟨rfl, rfl⟩)
  go_ret
  exact ⟨ret_bool (by simp), HB1.out.alloc (by omega) _⟩
 ·have hxb : (x == 0) = false := by simpa using hx
  have hxp : 1 ≤ x := by omega
  have HX : Hid (decide (x ≠ 0) = true) := Lib.hid (by simpa using hx)
  clear hx
  have HAB := Lib.hid (box_below w 4 0 f s A l.length cap)
  have HBX := Lib.hid (BoxAt.new w 4 0 f s A l.length cap)
  have BL := blank_any 4 0 f s A l.length cap
  rw [bv4] at BL
  have BL := Lib.hid BL
  have O := Lib.hid (of_any 4)
  rw [kv4] at O
  have BI := Lib.hid (Nm.bits_any)
  go_enter Tryz.func167, Tryz.ntmps167
  go_wp2_with fail
  refine (BL.out _).mono ?_
  rintro e w1 ⟨rfl, hb1⟩
  have hbox := HBX.out.later hb1 (by simp)
  obtain ⟨c0, c1, c2, c3, c4⟩ := hbox.cells
  have hlt := hbox.lt
  have HB1 := Lib.hid (HAB.out.trans (hb1.mono (by simp)))
  have HBX1 := Lib.hid hbox
  clear hbox
  clear hb1 HBX HAB BL
  go_wp2_with fail
  refine (O.out _).mono ?_
  rintro e w' ⟨rfl, rfl⟩
  go_wp2_with (go_at_call 170; refine (BI.out _ _).mono ?_; rintro e w' ⟨rfl, rfl⟩)
  have HB2 := Lib.hid (HB1.out.alloc (Nat.le_of_lt hlt) (.cells #[.int .i64 4, .int .i64 0, .float .f64 f, .string s, .slice none 0 0] 34))
  go_loopw [5, 49] (fun r i wr => ∃ (j : Nat), j ≤ l.length ∧ i = .int .i64 j ∧ r = .bool false ∧ (l.take j).all (fun t => t.valid (x - 1).toNat) = true ∧ w.heap.size < wr.heap.size ∧ Below w.heap.size w wr) (fun _ i _ => l.length - (intOf i).toNat)
  case atStart => exact ⟨0, by omega, rfl, rfl, rfl, by simp; omega, HB2.out⟩
  case round =>
   obtain ⟨j, hj, rfl, rfl, hy, hzr, hb⟩ := hrel
   have HY := Lib.hid hy; clear hy
   have HB := Lib.hid hb; clear hb
   by_cases hlt : j < l.length
   ·obtain ⟨b, off, hA, h1, h2, h3⟩ := (HK.out.later (HB.out.mono hz)).at_ (by omega)
    obtain ⟨k', n', f', s', L', A', cap', e, d0, d1, d2, d3, d4, hr⟩ := h3 j hlt
    subst hA
    have hwk : WalkAt wr g := HWK.out.later HB.out
    have hwc := hwk.1
    have hwl := hwk.2
    have HWR := Lib.hid hwk
    have HR := Lib.hid hr
    clear h3 e hr hwk
    go_wp2_with fail
    refine (IH.out j hlt (x - 1) (by omega) (by omega) _ lo hi _ (HR.out.alloc (by omega) _) (by simp; omega) (HWR.out.later ((Below.refl _ _).alloc (Nat.le_refl _) _))).mono ?_
    rintro e w2 ⟨rfl, hb1⟩
    have HZ2 : w.heap.size < w2.heap.size := by have := hb1.size; simp at this; omega
    have HB1 := Lib.hid ((HB.out.alloc (by omega) _).trans (hb1.mono (by simp; omega)))
    clear HB HR hb1 c0 c1 c2 c3 c4 d0 d1 d2 d3 d4 hwc hwl HWR
    cases hp : l[j].valid (x - 1).toNat with
    | true =>
     have HP := Lib.hid hp; clear hp
     go_wp2_with fail
     go_roundw
     case rel => exact ⟨j + 1, by omega, by go_num, rfl, by rw [all_take_succ _ _ _ hlt, HY.out, HP.out]; rfl, HZ2, HB1.out⟩
     case measure => simp [intOf]; omega
    | false =>
     have HP := Lib.hid hp; clear hp
     go_wp2_with fail
     go_ret
     exact ⟨ret_bool (by rw [HX.out, all_false _ _ j hlt HP.out]; rfl), HB1.out⟩
   ·have hj' : j = l.length := by omega
    have HJ := Lib.hid hj'
    clear hj'
    go_wp2_with fail
    go_ret
    have hall : l.all (fun t => t.valid (x - 1).toNat) = true := by have := HY.out; rw [HJ.out, List.take_length] at this; exact this
    exact ⟨ret_bool (by rw [HX.out, hall]; rfl), HB.out⟩
end Vt
end Go.Proofs.YtaahfiopdoinkaaGreat
namespace Go.Proofs.YtaahfiopdoinkaaGreat
namespace Vt
open Nm (bitsW ret_int ret_bool)

set_option maxRecDepth 100000 in
set_option maxHeartbeats 1000000 in
theorem vout (k : Int) (hk : k < 0 ∨ 4 < k) (n : Int) (f : Nat) (s : ByteArray) (m cap : Nat) (A : Option Addr) (x : Int) (g : Nat) (w : World) :
  Calls Tryz.prog 167 #[.agg #[.int .i64 k, .int .i64 n, .float .f64 f, .string s, .slice A m cap], .int .i64 x, .pointer (some ⟨g, 0, none⟩)] w fun e w' => e = .returned (.bool false) ∧ Below w.heap.size w w' := by
 have HAB := Lib.hid (box_below w k n f s A m cap)
 have HBX := Lib.hid (BoxAt.new w k n f s A m cap)
 have BL := blank_any k n f s A m cap
 have e0 : blankV k n f s A m cap = .agg #[.int .i64 k, .int .i64 n, .float .f64 f, .string s, .slice A m cap] := by unfold blankV; rw [if_neg (by omega), if_neg (by omega), if_neg (by omega), if_neg (by omega)]
 have e1 : kindV k = .nilIface := by unfold kindV; rw [if_neg (by omega), if_neg (by omega), if_neg (by omega), if_neg (by omega), if_neg (by omega)]
 rw [e0] at BL
 have BL := Lib.hid BL
 have O := of_any k
 rw [e1] at O
 have O := Lib.hid O
 clear e0 e1
 go_enter Tryz.func167, Tryz.ntmps167
 go_wp2_with fail
 refine (BL.out _).mono ?_
 rintro e w1 ⟨rfl, hb1⟩
 have hbox := HBX.out.later hb1 (by simp)
 obtain ⟨c0, c1, c2, c3, c4⟩ := hbox.cells
 have hlt := hbox.lt
 have HB1 := Lib.hid (HAB.out.trans (hb1.mono (by simp)))
 clear hbox hb1 HBX HAB BL
 go_wp2_with fail
 refine (O.out _).mono ?_
 rintro e w' ⟨rfl, rfl⟩
 go_wp2_with fail
 go_ret
 exact ⟨rfl, HB1.out.alloc (by omega) _⟩

theorem walk_any (t : VT) : ∀ (x : Int) (_ : 0 ≤ x) (_ : x ≤ 8) (g : Nat) (w : World) (lo hi : Nat) (v : Value) (_ : Rep w lo hi t v) (_ : hi ≤ w.heap.size) (_ : WalkAt w g),
  Calls Tryz.prog 167 #[v, .int .i64 x, .pointer (some ⟨g, 0, none⟩)] w fun e w' => e = .returned (.bool (t.valid x.toNat)) ∧ Below w.heap.size w w' := by
 induction t using VT.ind with
 | _ k n f s l ih =>
  intro x hx0 hx1 g w lo hi v hR hz hw
  obtain ⟨A, cap, rfl, ho, hl, hk⟩ := hR.head
  have hp := parts_iff k n f s l x hx0
  generalize (VT.mk k n f s l).valid x.toNat = R at hp ⊢
  by_cases hh : HeadV k n f s l.length
  ·rcases (by omega : k = 0 ∨ k = 1 ∨ k = 2 ∨ k = 3 ∨ k = 4 ∨ (k < 0 ∨ 4 < k)) with rfl | rfl | rfl | rfl | rfl | h6
   ·rcases headV_cases hh with ⟨q, -⟩ | ⟨q, -⟩ | ⟨q, -⟩ | ⟨q, -⟩ | ⟨e1, e2, e3, e4, rfl, q1, q2, q3⟩ <;> first | (exfalso; omega) | skip
    obtain rfl := List.eq_nil_of_length_eq_zero q3
    refine (vpass_0 f s q1 q2 A cap x g w).mono fun e w' h => ⟨?_, h.2⟩
    rw [h.1]
    exact parts_true hp ⟨by omega, by omega, .inr rfl, .inr q1, .inr q2, .inr rfl, by omega, rfl⟩
   ·rcases headV_cases hh with ⟨-, q1, q2, q3⟩ | ⟨q, -⟩ | ⟨q, -⟩ | ⟨q, -⟩ | ⟨q, -⟩ <;> first | (exfalso; omega) | skip
    obtain rfl := List.eq_nil_of_length_eq_zero q3
    refine (vpass_1 n f s q1 q2 A cap x g w).mono fun e w' h => ⟨?_, h.2⟩
    rw [h.1]
    exact parts_true hp ⟨by omega, by omega, .inl rfl, .inr q1, .inr q2, .inr rfl, by omega, rfl⟩
   ·rcases headV_cases hh with ⟨q, -⟩ | ⟨-, rfl, q2, q3⟩ | ⟨q, -⟩ | ⟨q, -⟩ | ⟨-, q, -⟩ <;> first | (exfalso; omega) | skip
    obtain rfl := List.eq_nil_of_length_eq_zero q3
    refine (vpass_2 f s q2 A cap x g w).mono fun e w' h => ⟨?_, h.2⟩
    rw [h.1]
    exact parts_true hp ⟨by omega, by omega, .inr rfl, .inl rfl, .inr q2, .inr rfl, by omega, rfl⟩
   ·rcases headV_cases hh with ⟨q, -⟩ | ⟨q, -⟩ | ⟨-, rfl, q2, q3⟩ | ⟨q, -⟩ | ⟨-, -, q, -⟩ <;> first | (exfalso; omega) | skip
    obtain rfl := List.eq_nil_of_length_eq_zero q3
    refine (vpass_3 f s q2 A cap x g w).mono fun e w' h => ⟨?_, h.2⟩
    rw [h.1]
    exact parts_true hp ⟨by omega, by omega, .inr rfl, .inr q2, .inl rfl, .inr rfl, by omega, rfl⟩
   ·rcases headV_cases hh with ⟨q, -⟩ | ⟨q, -⟩ | ⟨q, -⟩ | ⟨-, rfl, q2, q3⟩ | ⟨-, -, -, q, -⟩ <;> first | (exfalso; omega) | skip
    refine (vlist f s l A cap q2 q3 hl ho.m1 x hx0 hx1 g (fun i hi x a b w lo hi' v c d e => ih i hi x a b g w lo hi' v c d e) w lo hi hk hz hw).mono fun e w' h => ⟨?_, h.2⟩
    rw [h.1]
    congr 2
    rw [Bool.eq_iff_iff, hp]
    unfold Parts
    simp only [Bool.and_eq_true, decide_eq_true_iff]
    constructor
    ·rintro ⟨h1, h2⟩
     exact ⟨by omega, by omega, by simp, .inr q2, .inr q3, by simp, fun _ => h1, h2⟩
    ·rintro ⟨-, -, -, -, -, -, h1, h2⟩
     exact ⟨h1 (by simp), h2⟩
   ·refine (vout k h6 n f s l.length cap A x g w).mono fun e w' h => ⟨?_, h.2⟩
    rw [h.1]
    exact parts_false hp fun q => by obtain ⟨a, b, -⟩ := q; omega
  ·have ff : Calls Tryz.prog 167 #[.agg #[.int .i64 k, .int .i64 n, .float .f64 f, .string s, .slice A l.length cap], .int .i64 x, .pointer (some ⟨g, 0, none⟩)] w fun e w' => e = .returned (.bool false) ∧ Below w.heap.size w w' := by
    rcases (by omega : k = 0 ∨ k = 1 ∨ k = 2 ∨ k = 3 ∨ k = 4 ∨ (k < 0 ∨ 4 < k)) with rfl | rfl | rfl | rfl | rfl | h6
    ·exact vfail_0 n f s l.length cap A hh x g w
    ·exact vfail_1 n f s l.length cap A hh x g w
    ·exact vfail_2 n f s l.length cap A hh x g w
    ·exact vfail_3 n f s l.length cap A hh x g w
    ·exact vfail_4 n f s l.length cap A hh x g w
    ·exact vout k h6 n f s l.length cap A x g w
   refine ff.mono fun e w' h => ⟨?_, h.2⟩
   rw [h.1]
   exact parts_false hp fun q => hh (headV_of q)

set_option maxHeartbeats 1000000 in
theorem valid_any (t : VT) (w : World) (lo hi : Nat) (v : Value) (hR : Rep w lo hi t v) (hz : hi ≤ w.heap.size) :
  Calls Tryz.prog 135 #[v] w fun e w' => e = .returned (.bool (t.valid 8)) ∧ Below w.heap.size w w' := by
 have hv := hR
 obtain ⟨k, n, f, s, l, A, cap, rfl, rfl, ho, hl, hk⟩ := hR.open_
 generalize ht : VT.mk k n f s l = t at *
 have HV := Lib.hid hv
 have WA := Lib.hid (walk_any t 8 (by omega) (by omega))
 clear hv hR ho hk ht
 go_enter Tryz.func135, Tryz.ntmps135
 go_wp2_with fail
 refine (WA.out (w.heap.size + 1) _ lo hi _ ?h1 ?h2 ?h3).mono ?_
 case h1 => exact (HV.out.alloc hz _).alloc (by simp; omega) _
 case h2 => simp; omega
 case h3 => exact ⟨by simp [go_sem], by simp⟩
 rintro e w1 ⟨rfl, hb1⟩
 have HB2 := Lib.hid ((((Below.refl w.heap.size w).alloc (Nat.le_refl _) _).alloc (by simp) _).trans (hb1.mono (by simp; omega)))
 clear hb1
 go_wp2_with fail
 go_ret
 exact ⟨rfl, HB2.out⟩
end Vt
end Go.Proofs.YtaahfiopdoinkaaGreat
namespace Go.Proofs.YtaahfiopdoinkaaGreat
namespace Nm

end Nm
end Go.Proofs.YtaahfiopdoinkaaGreat
namespace Go.Proofs.YtaahfiopdoinkaaGreat
namespace Nm

def rankW (b : Nat) : Nat := if 9223372036854775808 ≤ b then 18446744073709551615 - b else b + 9223372036854775808
def cmp3 (a b : Nat) : Int := if a < b then -1 else if b < a then 1 else 0
theorem cmp3_cases (a b : Nat) : cmp3 a b = -1 ∧ a < b ∨ cmp3 a b = 0 ∧ a = b ∨ cmp3 a b = 1 ∧ b < a := by
 unfold cmp3
 by_cases h : a < b
 ·rw [if_pos h]; omega
 ·rw [if_neg h]
  by_cases h2 : b < a
  ·rw [if_pos h2]; omega
  ·rw [if_neg h2]; omega
def rcmpW (a b : Nat) : Int := cmp3 (rankW (bitsW a)) (rankW (bitsW b))

theorem bitsW_lt (b : Nat) (hb : b < 18446744073709551616) : bitsW b < 18446744073709551616 := by
 unfold bitsW quietW; split <;> omega

end Nm
end Go.Proofs.YtaahfiopdoinkaaGreat
namespace Go.Proofs.YtaahfiopdoinkaaGreat
namespace Nm

theorem misnan_any (b : Nat) (w : World) : Calls Tryz.prog 183 #[.float .f64 b] w fun e w' => e = .returned (.bool (Fm.isNan b)) ∧ w = w' := by
 have hs := neq_self b
 generalize Fm.isNan b = z at *
 go_enter Tryz.func183, Tryz.ntmps183
 go_wp2
 go_ret
 exact ⟨rfl, rfl⟩

theorem sign_any (b : Nat) (hb : b < 18446744073709551616) (w : World) : Calls Tryz.prog 184 #[.float .f64 b] w fun e w' => e = .returned (.int .i64 (if Fm.neg b = true then -1 else 1)) ∧ w = w' := by
 have C := Lib.hid (fun w => signbit_any b hb w)
 clear hb
 cases h : Fm.neg b with
 | true =>
  rw [h] at C; clear h
  go_enter Tryz.func184, Tryz.ntmps184
  go_wp2_with (go_at_call 187; refine (C.out _).mono ?_; rintro e w' ⟨rfl, rfl⟩)
  go_ret
  exact ⟨rfl, rfl⟩
 | false =>
  rw [h] at C; clear h
  go_enter Tryz.func184, Tryz.ntmps184
  go_wp2_with (go_at_call 187; refine (C.out _).mono ?_; rintro e w' ⟨rfl, rfl⟩)
  go_ret
  exact ⟨rfl, rfl⟩

def cmpI (a b : Int) : Int := if a < b then -1 else if b < a then 1 else 0

theorem cmpi_any (a b : Int) (w : World) : Calls Tryz.prog 77 #[.int .i64 a, .int .i64 b] w fun e w' => e = .returned (.int .i64 (cmpI a b)) ∧ w = w' := by
 unfold cmpI
 by_cases h : a < b
 ·rw [if_pos h]
  go_enter Tryz.func77, Tryz.ntmps77
  go_wp2
  go_ret
  exact ⟨rfl, rfl⟩
 ·rw [if_neg h]
  by_cases h2 : b < a
  ·rw [if_pos h2]
   go_enter Tryz.func77, Tryz.ntmps77
   go_wp2
   go_ret
   exact ⟨rfl, rfl⟩
  ·rw [if_neg h2]
   go_enter Tryz.func77, Tryz.ntmps77
   go_wp2
   go_ret
   exact ⟨rfl, rfl⟩

theorem ord_sv (a b : Nat) (ha : Fm.isNan a = false) (hb : Fm.isNan b = false) : FloatKind.f64.format.order a b = some (compare (Fm.SV a) (Fm.SV b)) := Fm.order_eq a b ha hb

theorem cmpf_any (a b : Nat) (ha : Fm.isNan a = false) (hb : Fm.isNan b = false) (w : World) :
  Calls Tryz.prog 185 #[.float .f64 a, .float .f64 b] w fun e w' => e = .returned (.int .i64 (cmpI (Fm.SV a) (Fm.SV b))) ∧ w = w' := by
 have h1 := neq_self a
 have h2 := neq_self b
 have h3 := ord_sv a b ha hb
 rw [ha] at h1
 rw [hb] at h2
 unfold cmpI
 by_cases h : Fm.SV a < Fm.SV b
 ·rw [if_pos h]
  rw [Int.compare_eq_lt.2 h] at h3
  clear h ha hb
  go_enter Tryz.func185, Tryz.ntmps185
  go_wp2
  go_ret
  exact ⟨rfl, rfl⟩
 ·rw [if_neg h]
  by_cases h' : Fm.SV b < Fm.SV a
  ·rw [if_pos h']
   rw [Int.compare_eq_gt.2 h'] at h3
   clear h h' ha hb
   go_enter Tryz.func185, Tryz.ntmps185
   go_wp2
   go_ret
   exact ⟨rfl, rfl⟩
  ·rw [if_neg h']
   have e : Fm.SV a = Fm.SV b := by omega
   rw [e] at h3
   have h4 : FloatKind.f64.format.order a b = some Ordering.eq := by rw [h3]; simp
   clear h h' ha hb e h3
   go_enter Tryz.func185, Tryz.ntmps185
   go_wp2
   go_ret
   exact ⟨rfl, rfl⟩

theorem sv_zero_iff (b : Nat) : Fm.SV b = 0 ↔ b % 2 ^ 63 = 0 := by
 have h1 := Fm.SV_abs b
 constructor
 ·intro h
  refine Classical.byContradiction fun hn => ?_
  have := V_pos hn
  omega
 ·intro h
  rw [h, Fm.V_zero] at h1
  omega

theorem cmp_num (a b : Nat) (ha : a < 18446744073709551616) (hb : b < 18446744073709551616) (h1 : Fm.isNan a = false) (h2 : Fm.isNan b = false) (hz : ¬ (Fm.SV a = 0 ∧ Fm.SV b = 0)) :
  cmpI (Fm.SV a) (Fm.SV b) = rcmpW a b := by
 have ea : bitsW a = a := by unfold bitsW; rw [h1]; rfl
 have eb : bitsW b = b := by unfold bitsW; rw [h2]; rfl
 have za := sv_zero_iff a
 have zb := sv_zero_iff b
 have hl := Fm.V_lt_iff (a % 2 ^ 63) (b % 2 ^ 63)
 have hg := Fm.V_lt_iff (b % 2 ^ 63) (a % 2 ^ 63)
 have na : Fm.neg a = decide (9223372036854775808 ≤ a) := by
  unfold Fm.neg; rw [Bool.eq_iff_iff]; simp only [beq_iff_eq, decide_eq_true_eq]; omega
 have nb : Fm.neg b = decide (9223372036854775808 ≤ b) := by
  unfold Fm.neg; rw [Bool.eq_iff_iff]; simp only [beq_iff_eq, decide_eq_true_eq]; omega
 have c3 := cmp3_cases (rankW a) (rankW b)
 unfold rcmpW
 rw [ea, eb]
 unfold cmpI
 have sa : Fm.SV a = if 9223372036854775808 ≤ a then -(Fm.V (a % 2 ^ 63) : Int) else Fm.V (a % 2 ^ 63) := by
  unfold Fm.SV; rw [na]; simp only [decide_eq_true_eq]
 have sb : Fm.SV b = if 9223372036854775808 ≤ b then -(Fm.V (b % 2 ^ 63) : Int) else Fm.V (b % 2 ^ 63) := by
  unfold Fm.SV; rw [nb]; simp only [decide_eq_true_eq]
 generalize Fm.V (a % 2 ^ 63) = va at *
 generalize Fm.V (b % 2 ^ 63) = vb at *
 generalize Fm.SV a = x at *
 generalize Fm.SV b = y at *
 unfold rankW at *
 clear na nb ea eb h1 h2
 by_cases p : 9223372036854775808 ≤ a
 ·rw [if_pos p] at sa c3
  by_cases q : 9223372036854775808 ≤ b
  ·rw [if_pos q] at sb c3
   rw [if_pos p, if_pos q]
   by_cases l : x < y
   ·rw [if_pos l]; omega
   ·rw [if_neg l]
    by_cases g : y < x
    ·rw [if_pos g]; omega
    ·rw [if_neg g]; omega
  ·rw [if_neg q] at sb c3
   rw [if_pos p, if_neg q]
   by_cases l : x < y
   ·rw [if_pos l]; omega
   ·rw [if_neg l]
    by_cases g : y < x
    ·rw [if_pos g]; omega
    ·rw [if_neg g]; omega
 ·rw [if_neg p] at sa c3
  by_cases q : 9223372036854775808 ≤ b
  ·rw [if_pos q] at sb c3
   rw [if_neg p, if_pos q]
   by_cases l : x < y
   ·rw [if_pos l]; omega
   ·rw [if_neg l]
    by_cases g : y < x
    ·rw [if_pos g]; omega
    ·rw [if_neg g]; omega
  ·rw [if_neg q] at sb c3
   rw [if_neg p, if_neg q]
   by_cases l : x < y
   ·rw [if_pos l]; omega
   ·rw [if_neg l]
    by_cases g : y < x
    ·rw [if_pos g]; omega
    ·rw [if_neg g]; omega
end Nm
end Go.Proofs.YtaahfiopdoinkaaGreat
