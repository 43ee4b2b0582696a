/- Rows of values of one's own; contract of the reference's Clone: a copy in new memory. -/
/- Rows of events of the call's own whose values lie anywhere; the reference's Commands; boxes of batches. -/
/- Contracts: the reference's Clone of a batch; batch.copied and batch.mapped of it. -/
import Derived.Test.YtpneejlilgepfaaGreatDoorMbai
import Derived.Test.YtpneejlilgepfaaGreatDoorMbak
import Derived.Deep.AppendLies
namespace Go.Proofs.YtpneejlilgepfaaGreatDoor
open Go.RowKit
set_option linter.unusedVariables false
set_option linter.unusedSimpArgs false
namespace Cn
open Nm (bitsW ret_int ret_bool)
open Vt (VT Rep BoxAt below_drew Cloned put5 KidsAt HeadOk)
open Ev (EV FieldsOk evCells vCells EBox ERep zeroT take_drop cons_drop)
open Cm (rowOf)

/-- Element i of a row of values that own their memory behind base. -/
def VNew (w : World) (base : Nat) (ro : Option Nat) (xs : List Value) (i : Nat) (t : VT) : Prop := ∃ lo hi k n f s A m c, base ≤ lo ∧ hi ≤ w.heap.size ∧ Rep w lo hi t (.agg #[.int .i64 k, .int .i64 n, .float .f64 f, .string s, .slice A m c]) ∧ (∀ r, ro = some r → r < lo ∨ hi ≤ r) ∧
  ∀ j, j < 5 → xs[i * 5 + j]? = (#[Value.int .i64 k, .int .i64 n, .float .f64 f, .string s, .slice A m c])[j]?
def VsAt (w : World) (base : Nat) (A : Option Addr) (cap n : Nat) (ts : List VT) : Prop := ts.length = n ∧ ∃ xs, w.ownsRow base 41 5 (.slice A n cap) n xs ∧ ∀ i (h : i < ts.length), VNew w base (rowOf A) xs i ts[i]

theorem VNew.keep {w w' : World} {base : Nat} {ro : Option Nat} {xs : List Value} {i : Nat} {t : VT} (h : VNew w base ro xs i t) (hz : w.heap.size ≤ w'.heap.size) (ho : ∀ b, b < w.heap.size → some b ≠ ro → w'.heap[b]? = w.heap[b]?) : VNew w' base ro xs i t := by
  obtain ⟨lo, hi, k, n, f, s, A, m, c, h0, h1, h2, h3, h4⟩ := h
  refine ⟨lo, hi, k, n, f, s, A, m, c, h0, Nat.le_trans h1 hz, h2.keep fun b o hb1 hb2 => ?_, h3, h4⟩
  exact World.cell?_of_block (a := ⟨b, o, none⟩) (ho b (by omega) (fun e => by have := h3 b e.symm; omega))

theorem vs_nil (w : World) (base : Nat) : VsAt w base none 0 0 [] := ⟨rfl, [], ⟨rfl, .inl ⟨rfl, rfl⟩⟩, fun i h => absurd h (by simp)⟩

theorem VsAt.setCell {w : World} {base : Nat} {A : Option Addr} {cap n : Nat} {ts : List VT} (h : VsAt w base A cap n ts) {p : Addr} (hp : p.block < base) (v : Value) : VsAt (w.setCell p v) base A cap n ts := by
  obtain ⟨h0, xs, h1, h3⟩ := h
  have hb : ∀ b, base ≤ b → (w.setCell p v).heap[b]? = w.heap[b]? := fun b hb => Below.heap_setCell _ _ _ b (by omega)
  refine ⟨h0, xs, ⟨h1.1, ?_⟩, fun i hi => ?_⟩
  · rcases h1.2 with h | ⟨r, cp, cur, q1, q2, q3, q4⟩
    · exact .inl h
    · exact .inr ⟨r, cp, cur, q1, q2, (hb r q2).trans q3, q4⟩
  · obtain ⟨lo, hi', k, n, f, s, A, m, c, h0, h1, h2, h3, h4⟩ := h3 i hi
    exact ⟨lo, hi', k, n, f, s, A, m, c, h0, by simpa [World.setCell] using h1, h2.setCell (.inl (by omega)) v, h3, h4⟩

theorem VsAt.push {W w' : World} {base r H : Nat} {A : Option Addr} {cap cap' n : Nat} {ts : List VT} {t : VT} {xs : List Value} {lo hi : Nat} {k n' : Int} {f : Nat} {s : ByteArray} {A' : Option Addr} {m c : Nat}
    (hlen : ts.length = n) (hlx : xs.length = n * 5) (hx : ∀ i (h : i < ts.length), VNew W base (rowOf A) xs i ts[i]) (hbl : base ≤ lo) (hv : Rep W lo hi t (.agg #[.int .i64 k, .int .i64 n', .float .f64 f, .string s, .slice A' m c])) (hz : hi ≤ W.heap.size) (hrr : ∀ r, rowOf A = some r → r < lo ∨ hi ≤ r)
    (hown : w'.ownsRow base 41 5 (.slice (some ⟨r, 0, none⟩) (n + 1) cap') (n + 1) (xs ++ #[Value.int .i64 k, .int .i64 n', .float .f64 f, .string s, .slice A' m c].toList)) (hgrow : W.grownBy w' (rowOf A)) (hat : rowOf A = some r ∨ r = H) (hH : W.heap.size ≤ H) :
    VsAt w' base (some ⟨r, 0, none⟩) cap' (n + 1) (ts ++ [t]) := by
  have key : ∀ {lo hi : Nat}, hi ≤ W.heap.size → (∀ r, rowOf A = some r → r < lo ∨ hi ≤ r) → ∀ r2, rowOf (some ⟨r, 0, none⟩) = some r2 → r2 < lo ∨ hi ≤ r2 := by
    intro lo hi h1 h2 r2 hr2
    obtain rfl : r = r2 := Option.some.inj hr2
    rcases hat with h | h
    · exact h2 r h
    · omega
  refine ⟨by simp [hlen], _, hown, fun i hil => ?_⟩
  simp at hil
  by_cases hlt : i < ts.length
  · rw [List.getElem_append_left hlt]
    obtain ⟨lo', hi', vk', vn', vf', vs', A2', m', c', q0, q3, q2, q5, q6⟩ := hx i hlt
    refine ⟨lo', hi', vk', vn', vf', vs', A2', m', c', q0, Nat.le_trans q3 hgrow.size, q2.keep fun b o hb1 hb2 => ?_, key q3 q5, fun j hj => (List.getElem?_append_left (by omega)).trans (q6 j hj)⟩
    exact World.cell?_of_block (a := ⟨b, o, none⟩) (hgrow.block b (by omega) (fun e => by have := q5 b e.symm; omega))
  · obtain rfl : i = ts.length := by omega
    rw [List.getElem_append_right (Nat.le_refl _)]
    simp only [Nat.sub_self, List.getElem_cons_zero]
    refine ⟨lo, hi, k, n', f, s, A', m, c, hbl, Nat.le_trans hz hgrow.size, hv.keep fun b o hb1 hb2 => ?_, key hz hrr, fun j hj => ?_⟩
    · exact World.cell?_of_block (a := ⟨b, o, none⟩) (hgrow.block b (by omega) (fun e => by have := hrr b e.symm; omega))
    · rw [List.getElem?_append_right (by omega), hlx, hlen, Nat.add_sub_cancel_left, Array.getElem?_toList]

/-- What a finished row is. -/
theorem VsAt.kids {w : World} {base : Nat} {A : Option Addr} {cap n : Nat} {ts : List VT} (h : VsAt w base A cap n ts) : KidsAt w base w.heap.size ts A ∧ n ≤ cap ∧ cap ≤ maxLen ∧ (0 < n → ∀ b off, A = some ⟨b, off, none⟩ → ∀ o, w.frozen? ⟨b, o, none⟩ = false) := by
  obtain ⟨rfl, xs, h1, h3⟩ := h
  rcases h1.2 with ⟨hv, h0⟩ | ⟨r, cp, cur, q1, q2, q3, q4, q5, q6, q7⟩
  · injection hv with hA hn hc
    exact ⟨⟨fun hp => absurd hp (by omega)⟩, by omega, by rw [hc]; exact Nat.zero_le _, fun hp => absurd hp (by omega)⟩
  · injection q1 with hA hn hc
    subst hc
    have hr : r < w.heap.size := (Array.getElem?_eq_some_iff.1 q3).1
    refine ⟨⟨fun hp => ⟨r, 0, hA, q2, hr, fun i hi => ?_⟩⟩, q4, q5, fun hp b off hb o => ?_⟩
    · obtain ⟨lo, hi', k, n, f, s, A', m, c, h0, h1', h2, h5, h4⟩ := h3 i hi
      obtain ⟨k', n', f', s', L, A2, cap2, ht, hv, -⟩ := h2.open_
      injection hv with hv
      simp at hv
      obtain ⟨rfl, rfl, rfl, rfl, rfl, rfl, rfl⟩ := hv
      have hcell : ∀ q, q < 5 → w.cell? ⟨r, 0 + i * 5 + q, none⟩ = #[Value.int .i64 k, .int .i64 n, .float .f64 f, .string s, .slice A' L.length c][q]? := fun q hq => by
        rw [← h4 q hq, ← q7, List.getElem?_take_of_lt (by omega), Array.getElem?_toList]
        simp [World.cell?, q3]
      exact ⟨k, n, f, s, L, A', c, ht, by simpa using hcell 0 (by omega), by simpa using hcell 1 (by omega), by simpa using hcell 2 (by omega), by simpa using hcell 3 (by omega), by simpa using hcell 4 (by omega), h2.more h0 h1'⟩
    · rw [hA] at hb
      obtain rfl : r = b := congrArg Addr.block (Option.some.inj hb)
      simp [World.frozen?, q3]

theorem VsAt.lt {w : World} {base : Nat} {A : Option Addr} {cap n : Nat} {ts : List VT} (h : VsAt w base A cap n ts) : ∀ r, rowOf A = some r → r < w.heap.size ∧ base ≤ r := fun r hr => by
  obtain ⟨-, xs, h1, -⟩ := h
  rcases h1.2 with ⟨h2, -⟩ | ⟨r', cp, cur, q1, q0, q3, -⟩
  · rw [← Cm.rowOf_own A n cap, h2] at hr; cases hr
  · rw [← Cm.rowOf_own A n cap, q1] at hr
    obtain rfl : r' = r := Option.some.inj hr
    exact ⟨(Array.getElem?_eq_some_iff.1 q3).1, q0⟩

theorem rclone_finish {w wr : World} {k n : Int} {f : Nat} {s : ByteArray} {l : List VT} {A2 : Option Addr} {cap0 cap2 : Nat} (ho : HeadOk k n f s cap0) (hm : VsAt wr (w.heap.size + 3) A2 cap2 l.length l) (hb : Below w.heap.size w wr) :
    Cloned (.mk k n f s l) w (.returned (.agg #[.int .i64 k, .int .i64 n, .float .f64 f, .string s, .slice A2 l.length cap2])) (put5 wr (w.heap.size + 1) 0 (.int .i64 k) (.int .i64 n) (.float .f64 f) (.string s) (.slice A2 l.length cap2)) := by
  obtain ⟨hk2, hl2, hc2, hfr⟩ := hm.kids
  refine ⟨k, n, f, s, l, A2, cap2, rfl, rfl, ?_, Vt.put5_below hb (by omega), fun hp b off hA o => ?_⟩
  · rw [Vt.put5_size]
    exact (Rep.close ⟨ho.k0, ho.k1, ho.n0, ho.n1, ho.f1, ho.s1, hc2⟩ hl2 (hk2.keep fun b o hb _ => Vt.put5_cell _ _ _ _ _ _ _ _ b o (by omega))).more (by omega) (Nat.le_refl _)
  · obtain ⟨b', off', hA', h1, h2, -⟩ := hk2.at_ hp
    rw [hA] at hA'
    obtain rfl : b = b' := congrArg Addr.block (Option.some.inj hA')
    exact (Cm.frozen_of_block (Vt.put5_other wr (w.heap.size + 1) 0 _ _ _ _ _ b (by omega)) o).trans (hfr hp b off hA o)

end Cn
end Go.Proofs.YtpneejlilgepfaaGreatDoor
namespace Go.Proofs.YtpneejlilgepfaaGreatDoor
open Go.RowKit
set_option linter.unusedVariables false
set_option linter.unusedSimpArgs false
namespace Cn
open Nm (bitsW ret_int ret_bool)
open Vt (VT Rep BoxAt below_drew Cloned put5 KidsAt HeadOk)
open Ev (EV FieldsOk evCells vCells EBox ERep zeroT take_drop cons_drop)
open Cm (rowOf EvsIn EvsAt EvNew evsSame evSame)

/-- Element i of a row of events. -/
def ECell (w : World) (ro : Option Nat) (xs : List Value) (i : Nat) (e : EV) : Prop := ∃ lo hi vk vn vf vs A m c, FieldsOk e ∧ Rep w lo hi e.v (vCells vk vn vf vs A m c) ∧ hi ≤ w.heap.size ∧ (∀ r, ro = some r → r < lo ∨ hi ≤ r) ∧
  ∀ j, j < 11 → xs[i * 11 + j]? = (evCells e vk vn vf vs A m c)[j]?
def ERow (w : World) (base : Nat) (A : Option Addr) (cap n : Nat) (es : List EV) : Prop := es.length = n ∧ ∃ xs, w.ownsRow base 43 11 (.slice A n cap) n xs ∧ ∀ i (h : i < es.length), ECell w (rowOf A) xs i es[i]

theorem erow_nil (w : World) (base : Nat) : ERow w base none 0 0 [] := ⟨rfl, [], ⟨rfl, .inl ⟨rfl, rfl⟩⟩, fun i h => absurd h (by simp)⟩
theorem EvsAt.erow {w : World} {base : Nat} {A : Option Addr} {cap n : Nat} {es : List EV} (h : EvsAt w base A cap n es) : ERow w base A cap n es := by
  obtain ⟨h0, xs, h1, h3⟩ := h
  refine ⟨h0, xs, h1, fun i hi => ?_⟩
  obtain ⟨lo, hi', vk, vn, vf, vs, A, m, c, h0, h1, h2, h3, h5, hfr, h6⟩ := h3 i hi
  exact ⟨lo, hi', vk, vn, vf, vs, A, m, c, h1, h2, h3, h5, h6⟩

theorem ECell.keep {w w' : World} {ro : Option Nat} {xs : List Value} {i : Nat} {e : EV} (h : ECell w ro xs i e) (hz : w.heap.size ≤ w'.heap.size) (ho : ∀ b, b < w.heap.size → some b ≠ ro → w'.heap[b]? = w.heap[b]?) : ECell w' ro xs i e := by
  obtain ⟨lo, hi, vk, vn, vf, vs, A, m, c, h1, h2, h3, h5, h6⟩ := h
  refine ⟨lo, hi, vk, vn, vf, vs, A, m, c, h1, h2.keep fun b o hb1 hb2 => ?_, Nat.le_trans h3 hz, h5, h6⟩
  exact World.cell?_of_block (a := ⟨b, o, none⟩) (ho b (by omega) (fun e => by have := h5 b e.symm; omega))

theorem own_keep {w w' : World} {base n : Nat} {T : TypeId} {s : Nat} {v : Value} {xs : List Value} (h : w.ownsRow base T s v n xs) (hb : Below w.heap.size w w') : w'.ownsRow base T s v n xs := by
  refine ⟨h.1, ?_⟩
  rcases h.2 with h | ⟨r, cp, cur, q1, q2, q3, q4⟩
  · exact .inl h
  · exact .inr ⟨r, cp, cur, q1, q2, (hb.block r (Array.getElem?_eq_some_iff.1 q3).1).trans q3, q4⟩
theorem own_lt {w : World} {base n cap : Nat} {T : TypeId} {s : Nat} {A : Option Addr} {xs : List Value} (h : w.ownsRow base T s (.slice A n cap) n xs) : ∀ r, rowOf A = some r → r < w.heap.size ∧ base ≤ r := fun r hr => by
  rcases h.2 with ⟨h2, -⟩ | ⟨r', cp, cur, q1, q0, q3, -⟩
  · rw [← Cm.rowOf_own A n cap, h2] at hr; cases hr
  · rw [← Cm.rowOf_own A n cap, q1] at hr
    obtain rfl : r' = r := Option.some.inj hr
    exact ⟨(Array.getElem?_eq_some_iff.1 q3).1, q0⟩

theorem ERow.later {w w' : World} {base : Nat} {A : Option Addr} {cap n : Nat} {es : List EV} (h : ERow w base A cap n es) (hb : Below w.heap.size w w') : ERow w' base A cap n es := by
  obtain ⟨h0, xs, h1, h3⟩ := h
  exact ⟨h0, xs, own_keep h1 hb, fun i hi => (h3 i hi).keep hb.size (fun b hlt _ => hb.block b hlt)⟩

theorem ERow.push {W w' : World} {base r H : Nat} {A : Option Addr} {cap cap' n : Nat} {es : List EV} {e : EV} {xs : List Value} {lo hi : Nat} {vk vn : Int} {vf : Nat} {vs : ByteArray} {A' : Option Addr} {m c : Nat}
    (hlen : es.length = n) (hlx : xs.length = n * 11) (hx : ∀ i (h : i < es.length), ECell W (rowOf A) xs i es[i]) (hf : FieldsOk e) (hv : Rep W lo hi e.v (vCells vk vn vf vs A' m c)) (hz : hi ≤ W.heap.size) (hrr : ∀ r, rowOf A = some r → r < lo ∨ hi ≤ r)
    (hown : w'.ownsRow base 43 11 (.slice (some ⟨r, 0, none⟩) (n + 1) cap') (n + 1) (xs ++ (evCells e vk vn vf vs A' m c).toList)) (hgrow : W.grownBy w' (rowOf A)) (hat : rowOf A = some r ∨ r = H) (hH : W.heap.size ≤ H) :
    ERow w' base (some ⟨r, 0, none⟩) cap' (n + 1) (es ++ [e]) := by
  have key : ∀ {lo hi : Nat}, hi ≤ W.heap.size → (∀ r, rowOf A = some r → r < lo ∨ hi ≤ r) → ∀ r2, rowOf (some ⟨r, 0, none⟩) = some r2 → r2 < lo ∨ hi ≤ r2 := by
    intro lo hi h1 h2 r2 hr2
    obtain rfl : r = r2 := Option.some.inj hr2
    rcases hat with h | h
    · exact h2 r h
    · omega
  refine ⟨by simp [hlen], _, hown, fun i hil => ?_⟩
  simp at hil
  by_cases hlt : i < es.length
  · rw [List.getElem_append_left hlt]
    obtain ⟨lo', hi', vk', vn', vf', vs', A2', m', c', q1, q2, q3, q5, q6⟩ := hx i hlt
    refine ⟨lo', hi', vk', vn', vf', vs', A2', m', c', q1, q2.keep fun b o hb1 hb2 => ?_, Nat.le_trans q3 hgrow.size, key q3 q5, fun j hj => (List.getElem?_append_left (by omega)).trans (q6 j hj)⟩
    exact World.cell?_of_block (a := ⟨b, o, none⟩) (hgrow.block b (by omega) (fun e => by have := q5 b e.symm; omega))
  · obtain rfl : i = es.length := by omega
    rw [List.getElem_append_right (Nat.le_refl _)]
    simp only [Nat.sub_self, List.getElem_cons_zero]
    refine ⟨lo, hi, vk, vn, vf, vs, A', m, c, hf, hv.keep fun b o hb1 hb2 => ?_, Nat.le_trans hz hgrow.size, key hz hrr, fun j hj => ?_⟩
    · exact World.cell?_of_block (a := ⟨b, o, none⟩) (hgrow.block b (by omega) (fun e => by have := hrr b e.symm; omega))
    · rw [List.getElem?_append_right (by omega), hlx, hlen, Nat.add_sub_cancel_left, Array.getElem?_toList]

theorem ERow.read {w : World} {base : Nat} {A : Option Addr} {cap n : Nat} {es : List EV} (h : ERow w base A cap n es) : EvsIn w A cap es := by
  obtain ⟨rfl, xs, h1, h3⟩ := h
  rcases h1.2 with ⟨hv, h0⟩ | ⟨r, cp, cur, q1, q2, q3, q4, q5, q6, q7⟩
  · injection hv with hA hn hc
    exact ⟨by omega, by rw [hc]; exact Nat.zero_le _, fun hp => absurd hp (by omega)⟩
  · injection q1 with hA hn hc
    subst hc
    refine ⟨q4, q5, fun hp => ⟨r, 0, hA, (Array.getElem?_eq_some_iff.1 q3).1, fun i hi => ?_⟩⟩
    obtain ⟨lo, hi', vk, vn, vf, vs, A', m, c, h1, h2, h5, -, h6⟩ := h3 i hi
    refine ⟨lo, hi', vk, vn, vf, vs, A', m, c, h1, h2, h5, fun q hq => ?_⟩
    rw [← h6 q hq, ← q7, List.getElem?_take_of_lt (by omega), Array.getElem?_toList]
    simp [World.cell?, q3]

/-- A batch in a box. -/
def BB (w : World) (g : Nat) (f : ByteArray) (at' : Nat) (A : Option Addr) (n c : Nat) : Prop := w.heap[g]? = some (.cells #[.string f, .int .u64 at', .slice A n c] 25 (0, 0))
theorem BB.cells {w : World} {g : Nat} {f : ByteArray} {at' : Nat} {A : Option Addr} {n c : Nat} (h : BB w g f at' A n c) :
    w.cell? ⟨g, 0, none⟩ = some (.string f) ∧ w.cell? ⟨g, 1, none⟩ = some (.int .u64 at') ∧ w.cell? ⟨g, 2, none⟩ = some (.slice A n c) ∧ ∀ o, w.frozen? ⟨g, o, none⟩ = false := by
  unfold BB at h; simp [World.cell?, World.frozen?, h]
theorem BB.later {w w' : World} {g B : Nat} {f : ByteArray} {at' : Nat} {A : Option Addr} {n c : Nat} (h : BB w g f at' A n c) (hb : Below B w w') (hg : g < B) : BB w' g f at' A n c := (hb.block g hg).trans h
theorem BB.lt {w : World} {g : Nat} {f : ByteArray} {at' : Nat} {A : Option Addr} {n c : Nat} (h : BB w g f at' A n c) : g < w.heap.size := (Array.getElem?_eq_some_iff.1 h).1
theorem BB.new (w : World) (f : ByteArray) (at' : Nat) (A : Option Addr) (n c : Nat) : BB (w.alloc (.cells #[.string f, .int .u64 at', .slice A n c] 25)) w.heap.size f at' A n c := heap_alloc_new w _
theorem BB.set {w : World} {g : Nat} {f : ByteArray} {at' : Nat} {A A2 : Option Addr} {n c n2 c2 : Nat} (h : BB w g f at' A n c) : BB (w.setCell ⟨g, 2, none⟩ (.slice A2 n2 c2)) g f at' A2 n2 c2 := by
  unfold BB at h ⊢; simp [World.setCell, Array.getElem?_modify, h]
theorem BB.far {w : World} {g b o : Nat} {f : ByteArray} {at' : Nat} {A : Option Addr} {n c : Nat} (h : BB w g f at' A n c) (hb : b ≠ g) (v : Value) : BB (w.setCell ⟨b, o, none⟩ v) g f at' A n c :=
  (Below.heap_setCell w ⟨b, o, none⟩ v g (fun e => hb e.symm)).trans h

/-- Does an event come from outside? -/
def outsideE (e : EV) : Bool := decide (1 ≤ e.k ∧ e.k ≤ 6)
def cmds (es : List EV) : List EV := es.filter (fun e => !outsideE e)
theorem cmds_le (es : List EV) : (cmds es).length ≤ es.length := List.length_filter_le ..
theorem cmds_take_yes {es : List EV} {j : Nat} (h : j < es.length) (ho : outsideE es[j] = true) : cmds (es.take (j + 1)) = cmds (es.take j) := by
  unfold cmds; rw [List.take_succ_eq_append_getElem h, List.filter_append]; simp [ho]
theorem cmds_take_no {es : List EV} {j : Nat} (h : j < es.length) (ho : outsideE es[j] = false) : cmds (es.take (j + 1)) = cmds (es.take j) ++ [es[j]] := by
  unfold cmds; rw [List.take_succ_eq_append_getElem h, List.filter_append]; simp [ho]

theorem ev_one (e : EV) (vk vn : Int) (vf : Nat) (vs : ByteArray) (A : Option Addr) (m c : Nat) : ∀ u ∈ (evCells e vk vn vf vs A m c).toList, u.oneCell' = true := Cm.ev_one e vk vn vf vs A m c

set_option maxRecDepth 100000 in
set_option maxHeartbeats 2000000 in
theorem rcmds_any (es : List EV) (hl40 : es.length ≤ 1099511627775) (f : ByteArray) (at' : Nat) (A : Option Addr) (cap : Nat) (w : World) (h : EvsIn w A cap es) :
    Calls Tryz.prog 13 #[.agg #[.string f, .int .u64 at', .slice A es.length cap]] w fun r w' => ∃ A2 cap2 n, r = .returned (.slice A2 n cap2) ∧ Below w.heap.size w w' ∧ ERow w' w.heap.size A2 cap2 n (cmds es) := by
  have hl := h.le
  have hc := h.cap_le
  simp only [maxLen] at hc
  obtain ⟨i0, hi0, hz0, hz1, hz2⟩ := info_parts Cm.Tryz.infoE
  have HK := Lib.hid h; clear h
  obtain ⟨W0, hW0⟩ : ∃ W0, W0 = w.alloc (.cells #[.string f, .int .u64 at', .slice A es.length cap] 25) := ⟨_, rfl⟩
  have HB0 : Hid (Below w.heap.size w W0) := Lib.hid (by rw [hW0]; exact (Below.refl _ _).alloc (Nat.le_refl _) _)
  have HX0 : Hid (BB W0 w.heap.size f at' A es.length cap) := Lib.hid (by rw [hW0]; exact BB.new ..)
  replace hW0 := Lib.hid hW0
  go_enter Tryz.func13, Tryz.ntmps13
  go_upto_region 1 with fail
  rw [← hW0.out]
  go_wp2_with fail
  go_loopw [3, 4] (fun out i wr => ∃ (j : Nat) (A2 : Option Addr) (cap2 n : Nat), j ≤ es.length ∧ i = .int .i64 j ∧ out = .slice A2 n cap2 ∧ n ≤ j ∧ ERow wr (w.heap.size + 1) A2 cap2 n (cmds (es.take j)) ∧ BB wr w.heap.size f at' A es.length cap ∧ Below w.heap.size w wr) (fun _ i _ => es.length - (intOf i).toNat)
  case atStart => exact ⟨0, none, 0, 0, by omega, rfl, rfl, by omega, by simpa [cmds] using erow_nil W0 _, HX0.out, HB0.out⟩
  case round =>
    obtain ⟨j, A2, cap2, n, hj, rfl, rfl, hnj, hrow, hbx, hb⟩ := hrel
    have hxl := hbx.lt
    obtain ⟨x0, x1, x2, -⟩ := hbx.cells
    have HBX := Lib.hid hbx; have HB := Lib.hid hb
    clear hbx hb
    by_cases hlt : j < es.length
    · obtain ⟨b, off, lo, hi, vk, vn, vf, vs, A', m, c, rfl, hbl, hf, hv0, hhi0, e0, e1, e2, e3, e4, e5, e6, e7, e8, e9, e10⟩ := HK.out.get j hlt
      have hcw : ∀ o, wr.cell? ⟨b, o, none⟩ = w.cell? ⟨b, o, none⟩ := fun o => HB.out.cell (p := ⟨b, o, none⟩) hbl
      have d0 := (hcw _).trans e0; have d1 := (hcw _).trans e1; have d2 := (hcw _).trans e2; have d3 := (hcw _).trans e3; have d4 := (hcw _).trans e4; have d5 := (hcw _).trans e5; have d6 := (hcw _).trans e6; have d7 := (hcw _).trans e7; have d8 := (hcw _).trans e8; have d9 := (hcw _).trans e9; have d10 := (hcw _).trans e10
      have hv := hv0.later (HB.out.mono hhi0)
      have hhi : hi ≤ wr.heap.size := Nat.le_trans hhi0 HB.out.size
      clear e0 e1 e2 e3 e4 e5 e6 e7 e8 e9 e10 hcw hv0
      have HV := Lib.hid hv; have HF := Lib.hid hf; have HROW := Lib.hid hrow
      clear hv hf hrow
      cases ho : outsideE es[j] with
      | true =>
        have HO := Lib.hid ho
        have h2 : 1 ≤ es[j].k ∧ es[j].k ≤ 6 := by simpa [outsideE] using ho
        have g1 : decide (es[j].k < 1) = false := by simp; omega
        have g2 : decide (es[j].k > 6) = false := by simp; omega
        have g3 : decide (6 < es[j].k) = false := by simp; omega
        clear ho h2
        go_wp2_with fail
        exact ⟨⟨j + 1, A2, cap2, n, by omega, by go_num, rfl, by omega, by rw [cmds_take_yes hlt HO.out]; exact HROW.out, HBX.out, HB.out⟩, by simp [intOf]; omega⟩
      | false =>
        have HO := Lib.hid ho
        have h2 : es[j].k < 1 ∨ 6 < es[j].k := by
          have : ¬ (1 ≤ es[j].k ∧ es[j].k ≤ 6) := by simpa [outsideE] using ho
          omega
        clear ho
        obtain ⟨W4, hW4⟩ : ∃ W4, W4 = wr.alloc (.cells (evCells es[j] vk vn vf vs A' m c) 43) := ⟨_, rfl⟩
        have K1 : Hid (Below wr.heap.size wr W4) := Lib.hid (by rw [hW4]; exact (Below.refl _ _).alloc (Nat.le_refl _) _)
        have K2 : Hid (∀ q u, (evCells es[j] vk vn vf vs A' m c).toList[q]? = some u → W4.cell? ((⟨wr.heap.size, 0, none⟩ : Addr).add q) = some u) := Lib.hid (World.news_of_block (t := 43) (fr := (0, 0)) (by rw [hW4]; exact heap_alloc_new wr _))
        have hz4 : W4.heap.size = wr.heap.size + 1 := by rw [hW4]; simp
        obtain ⟨hlen, xs, hxo, hxe⟩ := HROW.out
        have hlx := hxo.1
        have KO := Lib.hid (own_keep hxo K1.out)
        have HXE := Lib.hid hxe
        have HRO := Lib.hid (own_lt hxo)
        clear hxe hxo
        have HFIN : Hid (∀ r2 cap4 w5, w5.ownsRow (w.heap.size + 1) 43 11 (.slice (some ⟨r2, 0, none⟩) (n + 1) cap4) (n + 1) (xs ++ (evCells es[j] vk vn vf vs A' m c).toList) → W4.grownBy w5 (rowOf A2) → (rowOf A2 = some r2 ∨ r2 = W4.heap.size) →
            ERow w5 (w.heap.size + 1) (some ⟨r2, 0, none⟩) cap4 (n + 1) (cmds (es.take (j + 1))) ∧ BB w5 w.heap.size f at' (some ⟨b, off, none⟩) es.length cap ∧ Below w.heap.size w w5) := Lib.hid fun r2 cap4 w5 hown5 hgrow5 hat5 => by
          have hb5 : Below (w.heap.size + 1) wr w5 := (K1.out.mono (by omega)).trans ⟨hgrow5.os, hgrow5.tape, hgrow5.output, hgrow5.size, fun b hb => hgrow5.block b (by have := K1.out.size; omega) (fun e => by have := (HRO.out b e.symm).2; omega)⟩
          refine ⟨?_, HBX.out.later hb5 (Nat.lt_succ_self _), HB.out.trans (hb5.mono (Nat.le_succ _))⟩
          rw [cmds_take_no hlt HO.out]
          exact ERow.push (cap := 0) (lo := lo) (hi := hi) hlen hlx (fun i h => (HXE.out i h).keep K1.out.size (fun b hb _ => K1.out.block b hb)) HF.out (HV.out.later (K1.out.mono hhi)) (by omega) (fun r' hr' => .inr (by have := (HRO.out r' hr').2; omega)) hown5 hgrow5 hat5 (Nat.le_refl _)
        unfold evCells at hW4
        replace hW4 := Lib.hid hW4
        have hin6 : W4.heap.size = wr.heap.size + 1 := hz4
        have hb4 : w.heap.size + 1 ≤ W4.heap.size := by have := HB.out.size; omega
        rcases h2 with h2 | h2
        · have g1 : decide (es[j].k < 1) = true := by simpa using h2
          go_wp2_with (at_builtin; rw [← hW4.out]; refine wpList_append_lies _ rfl _ _ 23 rfl (w.heap.size + 1) 43 i0 _ 11 128 Tryz.underlying23 hi0 hz0 hz1 hz2 rfl (by decide) (.slice A2 n cap2) n xs rfl KO.out ⟨wr.heap.size, 0, none⟩ 1 1 (evCells es[j] vk vn vf vs A' m c).toList rfl rfl K2.out (ev_one _ _ _ _ _ _ _ _) (by decide) (by simp only [maxLen]; omega) (by omega) hb4 _ rfl ?_; intro r2 cap4 w5 hown5 hgrow5 hat5 hrl5)
          rw [Cm.rowOf_own] at hgrow5 hat5
          obtain ⟨z1, z2, z3⟩ := HFIN.out r2 cap4 w5 hown5 hgrow5 hat5
          clear hown5 hgrow5 hat5
          exact ⟨⟨j + 1, _, cap4, n + 1, by omega, by go_num, rfl, by omega, z1, z2, z3⟩, by simp [intOf]; omega⟩
        · have g1 : decide (es[j].k < 1) = false := by simp; omega
          have g2 : decide (6 < es[j].k) = true := by simpa using h2
          go_wp2_with (at_builtin; rw [← hW4.out]; refine wpList_append_lies _ rfl _ _ 23 rfl (w.heap.size + 1) 43 i0 _ 11 128 Tryz.underlying23 hi0 hz0 hz1 hz2 rfl (by decide) (.slice A2 n cap2) n xs rfl KO.out ⟨wr.heap.size, 0, none⟩ 1 1 (evCells es[j] vk vn vf vs A' m c).toList rfl rfl K2.out (ev_one _ _ _ _ _ _ _ _) (by decide) (by simp only [maxLen]; omega) (by omega) hb4 _ rfl ?_; intro r2 cap4 w5 hown5 hgrow5 hat5 hrl5)
          rw [Cm.rowOf_own] at hgrow5 hat5
          obtain ⟨z1, z2, z3⟩ := HFIN.out r2 cap4 w5 hown5 hgrow5 hat5
          clear hown5 hgrow5 hat5
          exact ⟨⟨j + 1, _, cap4, n + 1, by omega, by go_num, rfl, by omega, z1, z2, z3⟩, by simp [intOf]; omega⟩
    · have hj' : j = es.length := by omega
      subst hj'
      rw [List.take_length] at hrow
      have HROW := Lib.hid hrow
      clear hrow
      go_wp2_with fail
      go_ret
      obtain ⟨q0, xs, q1, q2⟩ := HROW.out
      refine ⟨A2, cap2, n, rfl, HB.out, q0, xs, ⟨q1.1, ?_⟩, q2⟩
      rcases q1.2 with h | ⟨r, cp, cur, z1, z2, z3⟩
      · exact .inl h
      · exact .inr ⟨r, cp, cur, z1, by omega, z3⟩
end Cn
end Go.Proofs.YtpneejlilgepfaaGreatDoor
namespace Go.Proofs.YtpneejlilgepfaaGreatDoor
open Go.RowKit
set_option linter.unusedVariables false
set_option linter.unusedSimpArgs false
namespace Cn
open Nm (bitsW ret_int ret_bool)
open Vt (VT Rep BoxAt below_drew Cloned put5 KidsAt HeadOk)
open Ev (EV FieldsOk evCells vCells EBox ERep zeroT take_drop cons_drop)
open Cm (rowOf EvsIn EvsAt EvNew evsSame evSame)

theorem evs_setCell {w : World} {base : Nat} {A : Option Addr} {cap n : Nat} {es : List EV} (h : EvsAt w base A cap n es) {p : Addr} (hp : p.block < base) (v : Value) : EvsAt (w.setCell p v) base A cap n es := by
  obtain ⟨h0, xs, h1, h3⟩ := h
  have hb : ∀ b, base ≤ b → (w.setCell p v).heap[b]? = w.heap[b]? := fun b hb => Below.heap_setCell _ _ _ b (by omega)
  refine ⟨h0, xs, ⟨h1.1, ?_⟩, fun i hi => ?_⟩
  · rcases h1.2 with h | ⟨r, cp, cur, q1, q2, q3, q4⟩
    · exact .inl h
    · exact .inr ⟨r, cp, cur, q1, q2, (hb r q2).trans q3, q4⟩
  · obtain ⟨lo, hi', vk, vn, vf, vs, A, m, c, h0, h1, h2, h3, h5, hfr, h6⟩ := h3 i hi
    have hin := Cm.rep_row h2
    exact ⟨lo, hi', vk, vn, vf, vs, A, m, c, h0, h1, h2.setCell (.inl (by omega)) v, by simpa [World.setCell] using h3, h5, fun hp b off hA o => (Cm.frozen_of_block (hb b (by have := hin hp b off hA; omega)) o).trans (hfr hp b off hA o), h6⟩
theorem evs_base {w : World} {base base' : Nat} {A : Option Addr} {cap n : Nat} {es : List EV} (h : EvsAt w base A cap n es) (hb : base' ≤ base) : EvsAt w base' A cap n es := by
  obtain ⟨h0, xs, h1, h3⟩ := h
  refine ⟨h0, xs, ⟨h1.1, ?_⟩, fun i hi => ?_⟩
  · rcases h1.2 with h | ⟨r, cp, cur, q1, q2, q3, q4⟩
    · exact .inl h
    · exact .inr ⟨r, cp, cur, q1, by omega, q3, q4⟩
  · obtain ⟨lo, hi', vk, vn, vf, vs, A, m, c, h0, h1, h2, h3, h5, hfr, h6⟩ := h3 i hi
    exact ⟨lo, hi', vk, vn, vf, vs, A, m, c, by omega, h1, h2, h3, h5, hfr, h6⟩

/-- What a copy of an event leaves. -/
def ECloned (e : EV) (w : World) (r : Ending) (w' : World) : Prop := ∃ k n f s A m c, r = .returned (.agg (evCells e k n f s A m c)) ∧ Rep w' w.heap.size w'.heap.size e.v (vCells k n f s A m c) ∧ Below w.heap.size w w' ∧ (0 < e.v.l.length → ∀ b off, A = some ⟨b, off, none⟩ → ∀ o, w'.frozen? ⟨b, o, none⟩ = false)

theorem box_ev (w : World) (e : EV) (vk vn : Int) (vf : Nat) (vs : ByteArray) (A : Option Addr) (m c : Nat) : EBox (w.alloc (.cells (evCells e vk vn vf vs A m c) 43)) w.heap.size (evCells e vk vn vf vs A m c) := heap_alloc_new w _
theorem ebox_free {w : World} {g : Nat} {cs : Array Value} (h : EBox w g cs) (o : Nat) : w.frozen? ⟨g, o, none⟩ = false := by unfold EBox at h; simp [World.frozen?, h]
theorem ebox_put {w : World} {g : Nat} {e : EV} {vk vn : Int} {vf : Nat} {vs : ByteArray} {A : Option Addr} {m c : Nat} {k n : Int} {f : Nat} {s : ByteArray} {A2 : Option Addr} {m2 c2 : Nat} (h : EBox w g (evCells e vk vn vf vs A m c)) :
    EBox (put5 w g 6 (.int .i64 k) (.int .i64 n) (.float .f64 f) (.string s) (.slice A2 m2 c2)) g (evCells e k n f s A2 m2 c2) := by
  unfold EBox at h ⊢
  rw [Vt.put5_block w g 6 _ _ _ _ _ _ _ h]
  simp [evCells]

set_option maxRecDepth 100000 in
set_option maxHeartbeats 2000000 in
theorem copied_any (e : EV) (hf : FieldsOk e) (hS : e.v.Slim 900) (vk vn : Int) (vf : Nat) (vs : ByteArray) (A : Option Addr) (m c : Nat) (w : World) (lo hi : Nat) (hv : Rep w lo hi e.v (vCells vk vn vf vs A m c)) (hz : hi ≤ w.heap.size) :
    Calls Tryz.prog 39 #[.agg (evCells e vk vn vf vs A m c)] w (ECloned e w) := by
  obtain ⟨W0, hW0⟩ : ∃ W0, W0 = (w.alloc (.cells (evCells e vk vn vf vs A m c) 43)).alloc (.cells #[.int .i64 0, .int .u64 0, .int .i64 0, .int .u64 0, .string ⟨#[]⟩, .string ⟨#[]⟩, .int .i64 0, .int .i64 0, .float .f64 0, .string ⟨#[]⟩, .slice none 0 0] 43) := ⟨_, rfl⟩
  have hx0 : EBox W0 w.heap.size (evCells e vk vn vf vs A m c) := by rw [hW0]; exact (heap_alloc_old _ _ (by simp)).trans (heap_alloc_new w _)
  have hx1 : EBox W0 (w.heap.size + 1) #[.int .i64 0, .int .u64 0, .int .i64 0, .int .u64 0, .string ⟨#[]⟩, .string ⟨#[]⟩, .int .i64 0, .int .i64 0, .float .f64 0, .string ⟨#[]⟩, .slice none 0 0] := by
    rw [hW0]
    have e := heap_alloc_new (w.alloc (.cells (evCells e vk vn vf vs A m c) 43)) (.cells #[.int .i64 0, .int .u64 0, .int .i64 0, .int .u64 0, .string ⟨#[]⟩, .string ⟨#[]⟩, .int .i64 0, .int .i64 0, .float .f64 0, .string ⟨#[]⟩, .slice none 0 0] 43)
    rw [World.size_alloc] at e
    exact e
  have hb0 : Below w.heap.size w W0 := by rw [hW0]; exact ((Below.refl _ _).alloc (Nat.le_refl _) _).alloc (by simp) _
  have hz0 : W0.heap.size = w.heap.size + 1 + 1 := by rw [hW0]; simp
  have HX0 := Lib.hid hx0; have HX1 := Lib.hid hx1; have HB0 := Lib.hid hb0; have HF := Lib.hid hf
  obtain ⟨-, -, -, -, -, -, c6, c7, c8, c9, c10⟩ := EBox.cells hx0
  have HC := Lib.hid (Vt.clone_any e.v W0 lo hi _ (hv.later (hb0.mono hz)) (Nat.le_trans hz hb0.size) hS)
  unfold vCells at HC
  unfold evCells at hW0
  replace hW0 := Lib.hid hW0
  clear hx0 hx1 hb0 hv hf
  unfold evCells
  go_enter Tryz.func39, Tryz.ntmps39
  go_upto_region 1 with fail
  rw [← hW0.out]
  go_wp2_with fail
  refine HC.out.mono ?_
  rintro x w1 ⟨k, n, f, s, l, A3, cap3, ht, rfl, hr, hb1, hfr⟩
  have hin := Cm.rep_row (t := e.v) (vk := k) (vn := n) (vf := f) (vs := s) (A := A3) (m := l.length) (c := cap3) hr
  rw [show l = e.v.l from by rw [ht]] at hfr
  have hx2 := HX0.out.later hb1 (by omega)
  have hy2 := HX1.out.later hb1 (by omega)
  have hfx := ebox_free hx2
  have z6 := hfx 6; have z7 := hfx 7; have z8 := hfx 8; have z9 := hfx 9; have z10 := hfx 10
  obtain ⟨d0, d1, d2, d3, d4, d5, d6, d7, d8, d9, d10⟩ := EBox.cells hx2
  obtain ⟨W2, hW2⟩ : ∃ W2, W2 = put5 w1 w.heap.size 6 (.int .i64 k) (.int .i64 n) (.float .f64 f) (.string s) (.slice A3 l.length cap3) := ⟨_, rfl⟩
  have hx3 := ebox_put (k := k) (n := n) (f := f) (s := s) (A2 := A3) (m2 := l.length) (c2 := cap3) hx2
  rw [← hW2] at hx3
  have hy3 : EBox W2 (w.heap.size + 1) #[.int .i64 0, .int .u64 0, .int .i64 0, .int .u64 0, .string ⟨#[]⟩, .string ⟨#[]⟩, .int .i64 0, .int .i64 0, .float .f64 0, .string ⟨#[]⟩, .slice none 0 0] := by rw [hW2]; exact (Vt.put5_other w1 w.heap.size 6 _ _ _ _ _ (w.heap.size + 1) (by omega)).trans hy2
  have hb2 : Below w.heap.size w W2 := by rw [hW2]; exact Vt.put5_below (HB0.out.trans (hb1.mono (by omega))) (Nat.le_refl _)
  have hr2 : Rep W2 (w.heap.size + 1 + 1) W2.heap.size e.v (.agg #[.int .i64 k, .int .i64 n, .float .f64 f, .string s, .slice A3 l.length cap3]) := by
    rw [hW2, Vt.put5_size, ← hz0]
    exact hr.keep fun b o hb1 hb2 => Vt.put5_cell _ _ _ _ _ _ _ _ _ _ (by omega)
  have hfr2 : 0 < e.v.l.length → ∀ b off, A3 = some ⟨b, off, none⟩ → ∀ o, W2.frozen? ⟨b, o, none⟩ = false := fun hp b off hA o => by
    obtain ⟨z1, z2⟩ := hin hp b off hA
    rw [hW2]
    exact (Cm.frozen_of_block (Vt.put5_other w1 w.heap.size 6 _ _ _ _ _ b (by omega)) o).trans (hfr hp b off hA o)
  have HR2 := Lib.hid hr2; have HFR2 := Lib.hid hfr2; have HB2 := Lib.hid hb2; have HIN := Lib.hid hin
  obtain ⟨y0, y1, y2, y3, y4, y5, y6, y7, y8, y9, y10⟩ := EBox.cells hx3
  have hfy := ebox_free hy3
  obtain ⟨g0, g1, g2, g3, g4, g5, g6, g7, g8, g9, g10⟩ := EBox.cells hy3
  have f0 := hfy 0; have f1 := hfy 1; have f2 := hfy 2; have f3 := hfy 3; have f4 := hfy 4; have f5 := hfy 5; have f6 := hfy 6; have f7 := hfy 7; have f8 := hfy 8; have f9 := hfy 9; have f10 := hfy 10
  simp only [put5, Nat.reduceAdd] at hW2
  replace hW2 := Lib.hid hW2
  clear hr hb1 hfr ht hr2 hfr2 hb2 hin hx2 hy2 hx3 hy3 hfx hfy c6 c7 c8 c9 c10
  go_upto_region 2 with fail
  rw [← hW2.out]
  clear d0 d1 d2 d3 d4 d5 d6 d7 d8 d9 d10 z6 z7 z8 z9 z10
  go_wp2_with fail
  refine bodyPost_ret (v := .agg (evCells e k n f s A3 l.length cap3)) (by simp [results, Tryz.results39, go_sem, g0, g1, g2, g3, g4, g5, g6, g7, g8, g9, g10, evCells]) rfl ?_
  refine ⟨k, n, f, s, A3, l.length, cap3, rfl, ?_, ?_, fun hp b off hA o => ?_⟩
  · have hk : ∀ (W : World) (q : Nat) (u : Value), Rep W (w.heap.size + 1 + 1) W2.heap.size e.v (vCells k n f s A3 l.length cap3) → Rep (W.setCell ⟨w.heap.size + 1, q, none⟩ u) (w.heap.size + 1 + 1) W2.heap.size e.v (vCells k n f s A3 l.length cap3) := fun W q u h => h.setCell (.inl (Nat.lt_succ_self _)) u
    refine Rep.more (lo := w.heap.size + 1 + 1) (hi := W2.heap.size) ?_ (by omega) (by simp [World.setCell])
    exact hk _ _ _ (hk _ _ _ (hk _ _ _ (hk _ _ _ (hk _ _ _ (hk _ _ _ (hk _ _ _ (hk _ _ _ (hk _ _ _ (hk _ _ _ (hk _ _ _ HR2.out))))))))))
  · have hk : ∀ (W : World) (q : Nat) (u : Value), Below w.heap.size w W → Below w.heap.size w (W.setCell ⟨w.heap.size + 1, q, none⟩ u) := fun W q u h => h.setCell (Nat.le_succ _) u
    exact hk _ _ _ (hk _ _ _ (hk _ _ _ (hk _ _ _ (hk _ _ _ (hk _ _ _ (hk _ _ _ (hk _ _ _ (hk _ _ _ (hk _ _ _ (hk _ _ _ HB2.out))))))))))
  · simp only [World.frozen?_setCell]
    exact HFR2.out hp b off hA o

set_option maxRecDepth 100000 in
set_option maxHeartbeats 2000000 in
theorem mapped_any (es : List EV) (hl40 : es.length ≤ 1099511627775) (hS : ∀ i (h : i < es.length), es[i].v.Slim 900) (A : Option Addr) (cap : Nat) (w : World) (h : EvsIn w A cap es) :
    Calls Tryz.prog 38 #[.slice A es.length cap, .func (.func 39) #[] #[]] w fun r w' => ∃ A2 cap2, r = .returned (.slice A2 es.length cap2) ∧ Below w.heap.size w w' ∧ EvsAt w' w.heap.size A2 cap2 es.length es := by
  have hl := h.le
  have hc := h.cap_le
  simp only [maxLen] at hc
  obtain ⟨i0, hi0, hz0, hz1, hz2⟩ := info_parts Cm.Tryz.infoE
  have HK := Lib.hid h; clear h
  have HS := Lib.hid hS; clear hS
  go_enter Tryz.func38, Tryz.ntmps38
  go_wp2_with fail
  go_loopw [5, 10] (fun out i wr => ∃ (j : Nat) (A2 : Option Addr) (cap2 : Nat), j ≤ es.length ∧ i = .int .i64 j ∧ out = .slice A2 j cap2 ∧ EvsAt wr w.heap.size A2 cap2 j (es.take j) ∧ Below w.heap.size w wr) (fun _ i _ => es.length - (intOf i).toNat)
  case atStart => exact ⟨0, none, 0, by omega, rfl, rfl, by simpa using Cm.evs_nil w w.heap.size, Below.refl _ _⟩
  case round =>
    obtain ⟨j, A2, cap2, hj, rfl, rfl, hevs, hb⟩ := hrel
    by_cases hlt : j < es.length
    · obtain ⟨b, off, lo, hi, vk, vn, vf, vs, A', m, c, rfl, hbl, hf, hv0, hhi0, e0, e1, e2, e3, e4, e5, e6, e7, e8, e9, e10⟩ := HK.out.get j hlt
      have HB := Lib.hid hb
      have hbs := hb.size
      have hcw : ∀ o, wr.cell? ⟨b, o, none⟩ = w.cell? ⟨b, o, none⟩ := fun o => HB.out.cell (p := ⟨b, o, none⟩) hbl
      have d0 := (hcw _).trans e0; have d1 := (hcw _).trans e1; have d2 := (hcw _).trans e2; have d3 := (hcw _).trans e3; have d4 := (hcw _).trans e4; have d5 := (hcw _).trans e5; have d6 := (hcw _).trans e6; have d7 := (hcw _).trans e7; have d8 := (hcw _).trans e8; have d9 := (hcw _).trans e9; have d10 := (hcw _).trans e10
      have hv := hv0.later (HB.out.mono hhi0)
      have hhi : hi ≤ wr.heap.size := Nat.le_trans hhi0 hbs
      clear e0 e1 e2 e3 e4 e5 e6 e7 e8 e9 e10 hcw hv0 hb
      obtain ⟨W1, hW1⟩ : ∃ W1, W1 = wr.alloc (.cells (evCells es[j] vk vn vf vs A' m c) 43) := ⟨_, rfl⟩
      have hb1 : Below wr.heap.size wr W1 := by rw [hW1]; exact (Below.refl _ _).alloc (Nat.le_refl _) _
      have hx1 : EBox W1 wr.heap.size (evCells es[j] vk vn vf vs A' m c) := by rw [hW1]; exact box_ev ..
      obtain ⟨g0, g1, g2, g3, g4, g5, g6, g7, g8, g9, g10⟩ := EBox.cells hx1
      have HC := Lib.hid (copied_any es[j] hf (HS.out j hlt) vk vn vf vs A' m c W1 lo hi (hv.later (hb1.mono hhi)) (Nat.le_trans hhi hb1.size))
      have HF := Lib.hid hf; have HB1 := Lib.hid hb1
      obtain ⟨hlen, xs, hxo, hxe⟩ := hevs
      have hlx := hxo.1
      have HOWN : Hid (∀ W, Below wr.heap.size wr W → W.ownsRow w.heap.size 43 11 (.slice A2 j cap2) j xs) := Lib.hid fun W hW => own_keep hxo hW
      have HRO := Lib.hid (own_lt hxo)
      have HXE := Lib.hid hxe
      unfold evCells at HC hW1
      replace hW1 := Lib.hid hW1
      clear hxe hxo hf hv hx1 hb1
      go_upto_region 5 with fail
      rw [← hW1.out]
      clear d0 d1 d2 d3 d4 d5 d6 d7 d8 d9 d10
      go_wp2_with fail
      refine HC.out.mono ?_
      rintro x w2 ⟨k, n, f, s', A3, m3, cap3, hx, hr, hb2, hfr3⟩
      unfold evCells at hx
      subst hx
      have hin := Cm.rep_row (t := es[j].v) (vk := k) (vn := n) (vf := f) (vs := s') (A := A3) (m := m3) (c := cap3) hr
      have HB2 : Hid (Below wr.heap.size wr w2) := Lib.hid (HB1.out.trans (hb2.mono HB1.out.size))
      obtain ⟨W4, hW4⟩ : ∃ W4, W4 = w2.alloc (.cells (evCells es[j] k n f s' A3 m3 cap3) 43) := ⟨_, rfl⟩
      have K1 : Hid (Below wr.heap.size wr W4) := Lib.hid (by rw [hW4]; exact HB2.out.alloc HB2.out.size _)
      have K2 : Hid (∀ q u, (evCells es[j] k n f s' A3 m3 cap3).toList[q]? = some u → W4.cell? ((⟨w2.heap.size, 0, none⟩ : Addr).add q) = some u) := Lib.hid (World.news_of_block (t := 43) (fr := (0, 0)) (by rw [hW4]; exact heap_alloc_new w2 _))
      have K3 : Hid (Rep W4 W1.heap.size w2.heap.size es[j].v (vCells k n f s' A3 m3 cap3)) := Lib.hid (by rw [hW4]; exact hr.alloc (Nat.le_refl _) _)
      have K5 : Hid (0 < es[j].v.l.length → ∀ b off, A3 = some ⟨b, off, none⟩ → ∀ o, W4.frozen? ⟨b, o, none⟩ = false) := Lib.hid fun hp b off hA o => by
        obtain ⟨z1, z2⟩ := hin hp b off hA
        rw [hW4]
        exact (Cm.frozen_of_block (heap_alloc_old _ _ z2) o).trans (hfr3 hp b off hA o)
      have hz4 : W4.heap.size = w2.heap.size + 1 := by rw [hW4]; simp
      have KO := Lib.hid (HOWN.out _ K1.out)
      have hbs4 := Nat.le_trans hbs K1.out.size
      have hw1s := HB1.out.size
      unfold evCells at hW4
      replace hW4 := Lib.hid hW4
      clear hr hb2 hfr3 hin g0 g1 g2 g3 g4 g5 g6 g7 g8 g9 g10
      go_wp2_with (at_builtin; rw [← hW4.out]; refine wpList_append_lies _ rfl _ _ 23 rfl w.heap.size 43 i0 _ 11 128 Tryz.underlying23 hi0 hz0 hz1 hz2 rfl (by decide) (.slice A2 j cap2) j xs rfl KO.out ⟨w2.heap.size, 0, none⟩ 1 1 (evCells es[j] k n f s' A3 m3 cap3).toList rfl rfl K2.out (ev_one _ _ _ _ _ _ _ _) (by decide) (by simp only [maxLen]; omega) (by omega) hbs4 _ rfl ?_; intro r2 cap4 w5 hown5 hgrow5 hat5 hrl5)
      rw [Cm.rowOf_own] at hgrow5 hat5
      have HP : Hid (EvsAt w5 w.heap.size (some ⟨r2, 0, none⟩) cap4 (j + 1) (es.take (j + 1))) := Lib.hid (by
        rw [List.take_succ_eq_append_getElem hlt]
        exact EvsAt.push (cap := 0) (H := W4.heap.size) hlen hlx (fun i h => (HXE.out i h).keep K1.out.size (fun b hb _ => K1.out.block b hb)) (by omega) HF.out K3.out (by omega) (fun r hr => .inl (by have := (HRO.out r hr).1; omega)) K5.out hown5 hgrow5 hat5 (Nat.le_refl _))
      have HB5 : Hid (Below w.heap.size w w5) := Lib.hid ((HB.out.trans (K1.out.mono hbs)).trans ⟨hgrow5.os, hgrow5.tape, hgrow5.output, hgrow5.size, fun b hb => hgrow5.block b (by omega) (fun e => by have := (HRO.out b e.symm).2; omega)⟩)
      clear hown5 hgrow5 hat5
      exact ⟨⟨j + 1, _, cap4, by omega, by go_num, rfl, HP.out, HB5.out⟩, by simp [intOf]; omega⟩
    · have hj' : j = es.length := by omega
      subst hj'
      rw [List.take_length] at hevs
      have HE := Lib.hid hevs; have HB := Lib.hid hb
      clear hevs hb
      go_wp2_with fail
      go_ret
      exact ⟨A2, cap2, rfl, HB.out, HE.out⟩
end Cn
end Go.Proofs.YtpneejlilgepfaaGreatDoor
