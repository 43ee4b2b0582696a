/- Rows of values of one's own; contract of the reference's Clone: a copy in new memory. -/
/- The package of statements: alive; what is valid. -/
/- Lists of events that are read; lists of the reference's builder. -/
/- Contracts: the reference's Same of events and of lists of events. -/
import Derived.Test.YtcbddebmmaflgaaGreatMqaf
import Derived.Test.YtcbddebmmaflgaaGreatMqaj
import Derived.Deep.AppendLies
import Derived.Test.YtcbddebmmaflgaaGreatMqac
import Derived.Test.YtcbddebmmaflgaaGreatMqae
import Derived.StillTailTactics
namespace Go.Proofs.YtcbddebmmaflgaaGreat
open Go.RowKit
set_option linter.unusedVariables false
set_option linter.unusedSimpArgs false
namespace Cn
open Nm (bitsW ret_int ret_bool)
open Vt (VT Rep BoxAt below_drew put5 KidsAt HeadOk)
open Ev (EV FieldsOk evCells vCells EBox ERep zeroT take_drop tk cons_drop)
open Cm (rowOf)

/-- Element i of a row of values that own their memory behind base. -/
def VNew (w : World) (base : Nat) (ro : Option Nat) (xs : List Value) (i : Nat) (t : VT) : Prop := ∃ lo hi k n f s A m c, base ≤ lo ∧ hi ≤ w.heap.size ∧ Rep w lo hi t (.agg #[.int .i64 k, .int .i64 n, .float .f64 f, .string s, .slice A m c]) ∧ (∀ r, ro = some r → r < lo ∨ hi ≤ r) ∧
  ∀ j, j < 5 → xs[i * 5 + j]? = (#[Value.int .i64 k, .int .i64 n, .float .f64 f, .string s, .slice A m c])[j]?
def VsAt (w : World) (base : Nat) (A : Option Addr) (cap n : Nat) (ts : List VT) : Prop := ts.length = n ∧ ∃ xs, w.ownsRow base 42 5 (.slice A n cap) n xs ∧ ∀ i (h : i < ts.length), VNew w base (rowOf A) xs i ts[i]

theorem VNew.keep {w w' : World} {base : Nat} {ro : Option Nat} {xs : List Value} {i : Nat} {t : VT} (h : VNew w base ro xs i t) (hz : w.heap.size ≤ w'.heap.size) (ho : ∀ b, b < w.heap.size → some b ≠ ro → w'.heap[b]? = w.heap[b]?) : VNew w' base ro xs i t := by
  obtain ⟨lo, hi, k, n, f, s, A, m, c, h0, h1, h2, h3, h4⟩ := h
  refine ⟨lo, hi, k, n, f, s, A, m, c, h0, Nat.le_trans h1 hz, h2.keep fun b o hb1 hb2 => ?_, h3, h4⟩
  exact World.cell?_of_block (a := ⟨b, o, none⟩) (ho b (by omega) (fun e => by have := h3 b e.symm; omega))

theorem vs_nil (w : World) (base : Nat) : VsAt w base none 0 0 [] := ⟨rfl, [], ⟨rfl, .inl ⟨rfl, rfl⟩⟩, fun i h => absurd h (by simp)⟩

theorem VsAt.setCell {w : World} {base : Nat} {A : Option Addr} {cap n : Nat} {ts : List VT} (h : VsAt w base A cap n ts) {p : Addr} (hp : p.block < base) (v : Value) : VsAt (w.setCell p v) base A cap n ts := by
  obtain ⟨h0, xs, h1, h3⟩ := h
  have hb : ∀ b, base ≤ b → (w.setCell p v).heap[b]? = w.heap[b]? := fun b hb => Below.heap_setCell _ _ _ b (by omega)
  refine ⟨h0, xs, ⟨h1.1, ?_⟩, fun i hi => ?_⟩
  · rcases h1.2 with h | ⟨r, cp, cur, q1, q2, q3, q4⟩
    · exact .inl h
    · exact .inr ⟨r, cp, cur, q1, q2, (hb r q2).trans q3, q4⟩
  · obtain ⟨lo, hi', k, n, f, s, A, m, c, h0, h1, h2, h3, h4⟩ := h3 i hi
    exact ⟨lo, hi', k, n, f, s, A, m, c, h0, by simpa [World.setCell] using h1, h2.setCell (.inl (by omega)) v, h3, h4⟩

theorem VsAt.push {W w' : World} {base r H : Nat} {A : Option Addr} {cap cap' n : Nat} {ts : List VT} {t : VT} {xs : List Value} {lo hi : Nat} {k n' : Int} {f : Nat} {s : ByteArray} {A' : Option Addr} {m c : Nat}
    (hlen : ts.length = n) (hlx : xs.length = n * 5) (hx : ∀ i (h : i < ts.length), VNew W base (rowOf A) xs i ts[i]) (hbl : base ≤ lo) (hv : Rep W lo hi t (.agg #[.int .i64 k, .int .i64 n', .float .f64 f, .string s, .slice A' m c])) (hz : hi ≤ W.heap.size) (hrr : ∀ r, rowOf A = some r → r < lo ∨ hi ≤ r)
    (hown : w'.ownsRow base 42 5 (.slice (some ⟨r, 0, none⟩) (n + 1) cap') (n + 1) (xs ++ #[Value.int .i64 k, .int .i64 n', .float .f64 f, .string s, .slice A' m c].toList)) (hgrow : W.grownBy w' (rowOf A)) (hat : rowOf A = some r ∨ r = H) (hH : W.heap.size ≤ H) :
    VsAt w' base (some ⟨r, 0, none⟩) cap' (n + 1) (ts ++ [t]) := by
  have key : ∀ {lo hi : Nat}, hi ≤ W.heap.size → (∀ r, rowOf A = some r → r < lo ∨ hi ≤ r) → ∀ r2, rowOf (some ⟨r, 0, none⟩) = some r2 → r2 < lo ∨ hi ≤ r2 := by
    intro lo hi h1 h2 r2 hr2
    obtain rfl : r = r2 := Option.some.inj hr2
    rcases hat with h | h
    · exact h2 r h
    · omega
  refine ⟨by simp [hlen], _, hown, fun i hil => ?_⟩
  simp at hil
  by_cases hlt : i < ts.length
  · rw [List.getElem_append_left hlt]
    obtain ⟨lo', hi', vk', vn', vf', vs', A2', m', c', q0, q3, q2, q5, q6⟩ := hx i hlt
    refine ⟨lo', hi', vk', vn', vf', vs', A2', m', c', q0, Nat.le_trans q3 hgrow.size, q2.keep fun b o hb1 hb2 => ?_, key q3 q5, fun j hj => (List.getElem?_append_left (by omega)).trans (q6 j hj)⟩
    exact World.cell?_of_block (a := ⟨b, o, none⟩) (hgrow.block b (by omega) (fun e => by have := q5 b e.symm; omega))
  · obtain rfl : i = ts.length := by omega
    rw [List.getElem_append_right (Nat.le_refl _)]
    simp only [Nat.sub_self, List.getElem_cons_zero]
    refine ⟨lo, hi, k, n', f, s, A', m, c, hbl, Nat.le_trans hz hgrow.size, hv.keep fun b o hb1 hb2 => ?_, key hz hrr, fun j hj => ?_⟩
    · exact World.cell?_of_block (a := ⟨b, o, none⟩) (hgrow.block b (by omega) (fun e => by have := hrr b e.symm; omega))
    · rw [List.getElem?_append_right (by omega), hlx, hlen, Nat.add_sub_cancel_left, Array.getElem?_toList]

/-- What a finished row is. -/
theorem VsAt.kids {w : World} {base : Nat} {A : Option Addr} {cap n : Nat} {ts : List VT} (h : VsAt w base A cap n ts) : KidsAt w base w.heap.size ts A ∧ n ≤ cap ∧ cap ≤ maxLen ∧ (0 < n → ∀ b off, A = some ⟨b, off, none⟩ → ∀ o, w.frozen? ⟨b, o, none⟩ = false) := by
  obtain ⟨rfl, xs, h1, h3⟩ := h
  rcases h1.2 with ⟨hv, h0⟩ | ⟨r, cp, cur, q1, q2, q3, q4, q5, q6, q7⟩
  · injection hv with hA hn hc
    exact ⟨⟨fun hp => absurd hp (by omega)⟩, by omega, by rw [hc]; exact Nat.zero_le _, fun hp => absurd hp (by omega)⟩
  · injection q1 with hA hn hc
    subst hc
    have hr : r < w.heap.size := (Array.getElem?_eq_some_iff.1 q3).1
    refine ⟨⟨fun hp => ⟨r, 0, hA, q2, hr, fun i hi => ?_⟩⟩, q4, q5, fun hp b off hb o => ?_⟩
    · obtain ⟨lo, hi', k, n, f, s, A', m, c, h0, h1', h2, h5, h4⟩ := h3 i hi
      obtain ⟨k', n', f', s', L, A2, cap2, ht, hv, -⟩ := h2.open_
      injection hv with hv
      simp at hv
      obtain ⟨rfl, rfl, rfl, rfl, rfl, rfl, rfl⟩ := hv
      have hcell : ∀ q, q < 5 → w.cell? ⟨r, 0 + i * 5 + q, none⟩ = #[Value.int .i64 k, .int .i64 n, .float .f64 f, .string s, .slice A' L.length c][q]? := fun q hq => by
        rw [← h4 q hq, ← q7, List.getElem?_take_of_lt (by omega), Array.getElem?_toList]
        simp [World.cell?, q3]
      exact ⟨k, n, f, s, L, A', c, ht, by simpa using hcell 0 (by omega), by simpa using hcell 1 (by omega), by simpa using hcell 2 (by omega), by simpa using hcell 3 (by omega), by simpa using hcell 4 (by omega), h2.more h0 h1'⟩
    · rw [hA] at hb
      obtain rfl : r = b := congrArg Addr.block (Option.some.inj hb)
      simp [World.frozen?, q3]

theorem VsAt.lt {w : World} {base : Nat} {A : Option Addr} {cap n : Nat} {ts : List VT} (h : VsAt w base A cap n ts) : ∀ r, rowOf A = some r → r < w.heap.size ∧ base ≤ r := fun r hr => by
  obtain ⟨-, xs, h1, -⟩ := h
  rcases h1.2 with ⟨h2, -⟩ | ⟨r', cp, cur, q1, q0, q3, -⟩
  · rw [← Cm.rowOf_own A n cap, h2] at hr; cases hr
  · rw [← Cm.rowOf_own A n cap, q1] at hr
    obtain rfl : r' = r := Option.some.inj hr
    exact ⟨(Array.getElem?_eq_some_iff.1 q3).1, q0⟩

end Cn
end Go.Proofs.YtcbddebmmaflgaaGreat
namespace Go.Proofs.YtcbddebmmaflgaaGreat
open Go.RowKit
set_option linter.unusedVariables false
namespace Cm
variable {X : Nat → Prop}
open Nm (ret_int ret_bool)
open Vt (VT Rep BoxAt below_drew put5)
open Ev (EV FieldsOk evCells vCells EBox ERep zeroT)

end Cm
end Go.Proofs.YtcbddebmmaflgaaGreat
namespace Go.Proofs.YtcbddebmmaflgaaGreat
open Go.RowKit
set_option linter.unusedVariables false
namespace Cm
variable {X : Nat → Prop}
open Nm (ret_int ret_bool)
open Vt (VT Rep BoxAt below_drew put5)
open Ev (EV FieldsOk evCells vCells EBox ERep zeroT)

/-- Two events are the same. -/
def evSame (a b : EV) : Bool := a.k == b.k && a.id == b.id && a.n == b.n && a.at' == b.at' && decide (a.name = b.name) && decide (a.text = b.text) && a.v.same b.v
/-- A list of events that can be read. -/
structure EvsIn (w : World) (A : Option Addr) (cap : Nat) (es : List EV) : Prop where
  le : es.length ≤ cap
  cap_le : cap ≤ maxLen
  at_ : 0 < es.length → ∃ b off, A = some ⟨b, off, none⟩ ∧ b < w.heap.size ∧ ∀ i (h : i < es.length), ∃ lo hi vk vn vf vs A' m c, FieldsOk es[i] ∧ Rep w lo hi es[i].v (vCells vk vn vf vs A' m c) ∧ hi ≤ w.heap.size ∧
    ∀ q, q < 11 → w.cell? ⟨b, off + i * 11 + q, none⟩ = (evCells es[i] vk vn vf vs A' m c)[q]?

theorem EvsIn.later {w w' : World} {A : Option Addr} {cap : Nat} {es : List EV} (h : EvsIn w A cap es) (hb : Below w.heap.size w w') : EvsIn w' A cap es := ⟨h.le, h.cap_le, fun hp => by
  obtain ⟨b, off, hA, hlt, h3⟩ := h.at_ hp
  refine ⟨b, off, hA, Nat.lt_of_lt_of_le hlt hb.size, fun i hi => ?_⟩
  obtain ⟨lo, hi', vk, vn, vf, vs, A', m, c, h4, h5, h6, h7⟩ := h3 i hi
  exact ⟨lo, hi', vk, vn, vf, vs, A', m, c, h4, h5.later (hb.mono h6), Nat.le_trans h6 hb.size, fun q hq => (hb.cell (p := ⟨b, _, none⟩) hlt).trans (h7 q hq)⟩⟩

/-- A list of the reference's builder: its row is its own, the values are those that came in. -/
structure MAt (w : World) (base : Nat) (A : Option Addr) (cap : Nat) (es : List EV) : Prop where
  nil_ : es = [] → A = none ∧ cap = 0
  le : es.length ≤ cap
  cap_le : cap ≤ maxLen
  at_ : 0 < es.length → ∃ b, A = some ⟨b, 0, none⟩ ∧ base ≤ b ∧ b < w.heap.size ∧ ∀ i (h : i < es.length), ∃ vk vn vf vs A' m c, FieldsOk es[i] ∧ Rep w 0 base es[i].v (vCells vk vn vf vs A' m c) ∧
    ∀ q, q < 11 → w.cell? ⟨b, i * 11 + q, none⟩ = (evCells es[i] vk vn vf vs A' m c)[q]?

theorem MAt.nil (w : World) (base : Nat) : MAt w base none 0 [] := ⟨fun _ => ⟨rfl, rfl⟩, Nat.le_refl _, Nat.zero_le _, fun h => absurd h (by simp)⟩
theorem MAt.later {w w' : World} {base : Nat} {A : Option Addr} {cap : Nat} {es : List EV} (h : MAt w base A cap es) (hbs : base ≤ w.heap.size) (hb : Below w.heap.size w w') : MAt w' base A cap es := ⟨h.nil_, h.le, h.cap_le, fun hp => by
  obtain ⟨b, rfl, h1, h2, h3⟩ := h.at_ hp
  refine ⟨b, rfl, h1, Nat.lt_of_lt_of_le h2 hb.size, fun i hi => ?_⟩
  obtain ⟨vk, vn, vf, vs, A', m, c, h4, h5, h7⟩ := h3 i hi
  exact ⟨vk, vn, vf, vs, A', m, c, h4, h5.later (hb.mono hbs), fun q hq => (World.cell?_of_block (a := ⟨b, _, none⟩) (hb.block b h2)).trans (h7 q hq)⟩⟩
/-! ### A builder under what others do -/
end Cm
end Go.Proofs.YtcbddebmmaflgaaGreat
namespace Go.Proofs.YtcbddebmmaflgaaGreat
open Go.RowKit
set_option linter.unusedVariables false
namespace Cm
open Nm (bitsW ret_int ret_bool)
open Vt (VT Rep BoxAt below_drew put5 toList_inj)
open Ev (EV FieldsOk evCells vCells EBox ERep zeroT)

/-- The cells of a list that is read. -/
theorem EvsIn.get {w : World} {A : Option Addr} {cap : Nat} {es : List EV} (h : EvsIn w A cap es) (i : Nat) (hi : i < es.length) :
    ∃ b off lo hi vk vn vf vs A' m c, A = some ⟨b, off, none⟩ ∧ b < w.heap.size ∧ FieldsOk es[i] ∧ Rep w lo hi es[i].v (vCells vk vn vf vs A' m c) ∧ hi ≤ w.heap.size ∧
      w.cell? ⟨b, off + i * 11, none⟩ = some (.int .i64 es[i].k) ∧ w.cell? ⟨b, off + i * 11 + 1, none⟩ = some (.int .u64 es[i].id) ∧ w.cell? ⟨b, off + i * 11 + 2, none⟩ = some (.int .i64 es[i].n) ∧ w.cell? ⟨b, off + i * 11 + 3, none⟩ = some (.int .u64 es[i].at') ∧
      w.cell? ⟨b, off + i * 11 + 4, none⟩ = some (.string es[i].name) ∧ w.cell? ⟨b, off + i * 11 + 5, none⟩ = some (.string es[i].text) ∧ w.cell? ⟨b, off + i * 11 + 6, none⟩ = some (.int .i64 vk) ∧ w.cell? ⟨b, off + i * 11 + 7, none⟩ = some (.int .i64 vn) ∧
      w.cell? ⟨b, off + i * 11 + 8, none⟩ = some (.float .f64 vf) ∧ w.cell? ⟨b, off + i * 11 + 9, none⟩ = some (.string vs) ∧ w.cell? ⟨b, off + i * 11 + 10, none⟩ = some (.slice A' m c) := by
  obtain ⟨b, off, hA, hlt, h3⟩ := h.at_ (by omega)
  obtain ⟨lo, hi', vk, vn, vf, vs, A', m, c, h4, h5, h6, h7⟩ := h3 i hi
  exact ⟨b, off, lo, hi', vk, vn, vf, vs, A', m, c, hA, hlt, h4, h5, h6, h7 0 (by omega), h7 1 (by omega), h7 2 (by omega), h7 3 (by omega), h7 4 (by omega), h7 5 (by omega), h7 6 (by omega), h7 7 (by omega), h7 8 (by omega), h7 9 (by omega), h7 10 (by omega)⟩

end Cm
end Go.Proofs.YtcbddebmmaflgaaGreat
