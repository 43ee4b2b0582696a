/- Events that are changed in place: between two marks of the memory. -/
import Derived.Test.YtpneejlilgepfaaCnG
import Derived.Test.YtpneejlilgepfaaCnM
namespace Go.Proofs.Ytpneejlilgepfaa
open Go.RowKit
set_option linter.unusedVariables false
set_option linter.unusedSimpArgs false
namespace Cn
open Nm (bitsW ret_int ret_bool)
open Vt (VT Rep BoxAt below_drew Cloned put5 KidsAt HeadOk)
open Ev (EV FieldsOk evCells vCells EBox ERep zeroT take_drop cons_drop)
open Cm (rowOf EvsIn EvsAt EvNew evsSame evSame)

/-- The numbers of a list of values can be written. -/
def NB (w : World) (lo hi r : Nat) (A : Option Addr) (m : Nat) : Prop := 0 < m → ∃ b off, A = some ⟨b, off, none⟩ ∧ b ≠ r ∧ lo ≤ b ∧ b < hi ∧ ∀ k, k < m → (∃ x, w.cell? ⟨b, off + k * 5 + 1, none⟩ = some (.int .i64 x)) ∧ w.frozen? ⟨b, off + k * 5 + 1, none⟩ = false
/-- A row of events whose numbers can be written. -/
def MutB (w : World) (lo hi : Nat) (A : Option Addr) (n : Nat) : Prop := 0 < n → ∃ r, A = some ⟨r, 0, none⟩ ∧ lo ≤ r ∧ r < hi ∧ (∀ o, w.frozen? ⟨r, o, none⟩ = false) ∧ ∀ p, p < n → (∃ x, w.cell? ⟨r, p * 11 + 1, none⟩ = some (.int .u64 x)) ∧ ∃ A' m c, w.cell? ⟨r, p * 11 + 10, none⟩ = some (.slice A' m c) ∧ m ≤ c ∧ c ≤ maxLen ∧ NB w lo hi r A' m

theorem EvsAt.mutb {w : World} {base : Nat} {A : Option Addr} {cap n : Nat} {es : List EV} (h : EvsAt w base A cap n es) : MutB w base w.heap.size A n := fun hn => by
  obtain ⟨h0, xs, h1, h3⟩ := h
  rcases h1.2 with ⟨-, hz⟩ | ⟨r, cp, cur, q1, q2, q3, q4, q5, q6, q7⟩
  · omega
  · injection q1 with q1 _ _
    refine ⟨r, q1, q2, (Array.getElem?_eq_some_iff.1 q3).1, fun o => by simp [World.frozen?, q3], fun p hp => ?_⟩
    obtain ⟨lo, hi, vk, vn, vf, vs, A', m, c, k0, k1, k2, k3, k5, kfr, k6⟩ := h3 p (by omega)
    have hcell : ∀ q, q < 11 → w.cell? ⟨r, p * 11 + q, none⟩ = (evCells es[p] vk vn vf vs A' m c)[q]? := fun q hq => by
      rw [← k6 q hq, ← q7, List.getElem?_take_of_lt (by omega), Array.getElem?_toList]
      simp [World.cell?, q3]
    refine ⟨⟨_, (hcell 1 (by omega)).trans rfl⟩, A', m, c, (hcell 10 (by omega)).trans rfl, ?_⟩
    obtain ⟨k, n', f, s, l, A2, cap2, ht, hv, ho, hle, hk⟩ := k2.open_
    injection hv with hv
    simp at hv
    obtain ⟨-, -, -, -, rfl, rfl, rfl⟩ := hv
    refine ⟨hle, ho.m1, fun hm => ?_⟩
    obtain ⟨b, off, hA', h1, h2, h3⟩ := hk.at_ hm
    refine ⟨b, off, hA', ?_, by omega, by omega, fun k hk => ?_⟩
    · have := k5 r (by rw [q1]; rfl)
      omega
    · obtain ⟨_, x, _, _, _, _, _, -, -, c1, -⟩ := h3 k hk
      exact ⟨⟨x, c1⟩, kfr (by rw [ht]; exact hm) b off hA' _⟩

theorem set_u {w : World} {p q : Addr} {y : Int} (h : ∃ x, w.cell? q = some (.int .u64 x)) : ∃ x, (w.setCell p (.int .u64 y)).cell? q = some (.int .u64 x) := by
  obtain ⟨x, hx⟩ := h
  by_cases e : p = q
  · subst e; exact ⟨y, World.cell?_setCell_same w p _ hx⟩
  · exact ⟨x, by rw [World.cell?_setCell_other w p q _ (fun h => e h)]; exact hx⟩
theorem set_i {w : World} {p q : Addr} {y : Int} (h : ∃ x, w.cell? q = some (.int .i64 x)) : ∃ x, (w.setCell p (.int .i64 y)).cell? q = some (.int .i64 x) := by
  obtain ⟨x, hx⟩ := h
  by_cases e : p = q
  · subst e; exact ⟨y, World.cell?_setCell_same w p _ hx⟩
  · exact ⟨x, by rw [World.cell?_setCell_other w p q _ (fun h => e h)]; exact hx⟩
theorem NB.far {w : World} {lo hi r : Nat} {A : Option Addr} {m : Nat} (h : NB w lo hi r A m) {p : Addr} (hp : p.block = r ∨ hi ≤ p.block) (v : Value) : NB (w.setCell p v) lo hi r A m := fun hm => by
  obtain ⟨b, off, h1, h2, h3, h4, h5⟩ := h hm
  refine ⟨b, off, h1, h2, h3, h4, fun k hk => ⟨?_, by simpa using (h5 k hk).2⟩⟩
  rw [World.cell?_setCell_other w p ⟨b, off + k * 5 + 1, none⟩ v (fun e => by subst e; simp only [] at hp; omega)]
  exact (h5 k hk).1
theorem NB.setN {w : World} {lo hi r : Nat} {A : Option Addr} {m : Nat} (h : NB w lo hi r A m) (p : Addr) (y : Int) : NB (w.setCell p (.int .i64 y)) lo hi r A m := fun hm => by
  obtain ⟨b, off, h1, h2, h3, h4, h5⟩ := h hm
  exact ⟨b, off, h1, h2, h3, h4, fun k hk => ⟨set_i (h5 k hk).1, by simpa using (h5 k hk).2⟩⟩
theorem MutB.setID {w : World} {lo hi r p n : Nat} (h : MutB w lo hi (some ⟨r, 0, none⟩) n) (y : Int) : MutB (w.setCell ⟨r, p * 11 + 1, none⟩ (.int .u64 y)) lo hi (some ⟨r, 0, none⟩) n := fun hn => by
  obtain ⟨r', hr, h1, h2, h3, h4⟩ := h hn
  injection hr with hr
  injection hr with hr _ _
  subst hr
  refine ⟨r, rfl, h1, h2, fun o => by simpa using h3 o, fun q hq => ?_⟩
  obtain ⟨k1, A', m, c, k2, k3, k4, k5⟩ := h4 q hq
  refine ⟨set_u k1, A', m, c, ?_, k3, k4, k5.far (.inl rfl) _⟩
  rw [World.cell?_setCell_other _ _ _ _ (fun e => by injection e with _ e; omega)]
  exact k2
theorem MutB.setN {w : World} {lo hi n : Nat} {A : Option Addr} (h : MutB w lo hi A n) (p : Addr) (hp : ∀ r, A = some ⟨r, 0, none⟩ → p.block ≠ r) (y : Int) : MutB (w.setCell p (.int .i64 y)) lo hi A n := fun hn => by
  obtain ⟨r, rfl, h1, h2, h3, h4⟩ := h hn
  refine ⟨r, rfl, h1, h2, fun o => by simpa using h3 o, fun q hq => ?_⟩
  obtain ⟨k1, A', m, c, k2, k3, k4, k5⟩ := h4 q hq
  have e : ∀ o, (w.setCell p (.int .i64 y)).cell? ⟨r, o, none⟩ = w.cell? ⟨r, o, none⟩ := fun o => World.cell?_setCell_other _ _ _ _ (fun e => hp r rfl (by rw [e]))
  exact ⟨by rw [e]; exact k1, A', m, c, by rw [e]; exact k2, k3, k4, k5.setN p y⟩
theorem NB.later {w w' : World} {lo hi r : Nat} {A : Option Addr} {m : Nat} (h : NB w lo hi r A m) (hb : Below hi w w') : NB w' lo hi r A m := fun hm => by
  obtain ⟨b, off, h1, h2, h3, h4, h5⟩ := h hm
  refine ⟨b, off, h1, h2, h3, h4, fun k hk => ⟨?_, ?_⟩⟩
  · rw [hb.cell (p := ⟨b, _, none⟩) h4]; exact (h5 k hk).1
  · rw [hb.frozen (p := ⟨b, _, none⟩) h4]; exact (h5 k hk).2
theorem MutB.later {w w' : World} {lo hi n : Nat} {A : Option Addr} (h : MutB w lo hi A n) (hb : Below hi w w') : MutB w' lo hi A n := fun hn => by
  obtain ⟨r, rfl, h1, h2, h3, h4⟩ := h hn
  refine ⟨r, rfl, h1, h2, fun o => (hb.frozen (p := ⟨r, o, none⟩) h2).trans (h3 o), fun q hq => ?_⟩
  obtain ⟨k1, A', m, c, k2, k3, k4, k5⟩ := h4 q hq
  have e : ∀ o, w'.cell? ⟨r, o, none⟩ = w.cell? ⟨r, o, none⟩ := fun o => hb.cell (p := ⟨r, o, none⟩) h2
  exact ⟨by rw [e]; exact k1, A', m, c, by rw [e]; exact k2, k3, k4, k5.later hb⟩
end Cn
end Go.Proofs.Ytpneejlilgepfaa
