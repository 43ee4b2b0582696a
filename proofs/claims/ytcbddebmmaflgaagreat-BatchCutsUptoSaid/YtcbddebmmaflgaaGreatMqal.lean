/- Rows of events of the call's own whose values lie anywhere; the reference's Commands; boxes of batches. -/
/- Contracts: the reference's Clone of a batch; batch.copied and batch.mapped of it. -/
/- Contracts: event.Outside; slices.IndexFunc of events by whatever question; batch.Clone. -/
/- Contracts: batch.Valid. -/
/- A law of the walk for 'for .. := range it' where the iterator keeps state of its own in a cell: the loop is told by predicates on worlds, and the iterator's own stores are taken in. No program in sight. -/
/- The iterator of a number's bytes (bin.digits$1), walked inside the wide fence, for whatever loop body. -/
import Derived.Test.YtcbddebmmaflgaaGreatMqak
import Derived.RangeFuncNested
import Derived.RangeFuncBound
import Derived.RangeFuncCalls
import Derived.RangeFuncLeaves
import Derived.Below
import Derived.Test.YtcbddebmmaflgaaGreatMqab
import Derived.OwnWalkIn
import Derived.TacticsInMore
import Derived.LoopNIn
import Derived.LoopIn
import Derived.Laws.EntriesVeiled
namespace Go.Proofs.YtcbddebmmaflgaaGreat
open Go.RowKit
set_option linter.unusedVariables false
set_option linter.unusedSimpArgs false
namespace Cn
open Nm (bitsW ret_int ret_bool)
open Vt (VT Rep BoxAt below_drew put5 KidsAt HeadOk)
open Ev (EV FieldsOk evCells vCells EBox ERep zeroT take_drop tk cons_drop)
open Cm (rowOf EvsIn EvsAt EvNew evSame)

/-- Element i of a row of events. -/
def ECell (w : World) (ro : Option Nat) (xs : List Value) (i : Nat) (e : EV) : Prop := ∃ lo hi vk vn vf vs A m c, FieldsOk e ∧ Rep w lo hi e.v (vCells vk vn vf vs A m c) ∧ hi ≤ w.heap.size ∧ (∀ r, ro = some r → r < lo ∨ hi ≤ r) ∧
  ∀ j, j < 11 → xs[i * 11 + j]? = (evCells e vk vn vf vs A m c)[j]?
def ERow (w : World) (base : Nat) (A : Option Addr) (cap n : Nat) (es : List EV) : Prop := es.length = n ∧ ∃ xs, w.ownsRow base 44 11 (.slice A n cap) n xs ∧ ∀ i (h : i < es.length), ECell w (rowOf A) xs i es[i]

theorem ECell.keep {w w' : World} {ro : Option Nat} {xs : List Value} {i : Nat} {e : EV} (h : ECell w ro xs i e) (hz : w.heap.size ≤ w'.heap.size) (ho : ∀ b, b < w.heap.size → some b ≠ ro → w'.heap[b]? = w.heap[b]?) : ECell w' ro xs i e := by
  obtain ⟨lo, hi, vk, vn, vf, vs, A, m, c, h1, h2, h3, h5, h6⟩ := h
  refine ⟨lo, hi, vk, vn, vf, vs, A, m, c, h1, h2.keep fun b o hb1 hb2 => ?_, Nat.le_trans h3 hz, h5, h6⟩
  exact World.cell?_of_block (a := ⟨b, o, none⟩) (ho b (by omega) (fun e => by have := h5 b e.symm; omega))

theorem own_keep {w w' : World} {base n : Nat} {T : TypeId} {s : Nat} {v : Value} {xs : List Value} (h : w.ownsRow base T s v n xs) (hb : Below w.heap.size w w') : w'.ownsRow base T s v n xs := by
  refine ⟨h.1, ?_⟩
  rcases h.2 with h | ⟨r, cp, cur, q1, q2, q3, q4⟩
  · exact .inl h
  · exact .inr ⟨r, cp, cur, q1, q2, (hb.block r (Array.getElem?_eq_some_iff.1 q3).1).trans q3, q4⟩
theorem own_lt {w : World} {base n cap : Nat} {T : TypeId} {s : Nat} {A : Option Addr} {xs : List Value} (h : w.ownsRow base T s (.slice A n cap) n xs) : ∀ r, rowOf A = some r → r < w.heap.size ∧ base ≤ r := fun r hr => by
  rcases h.2 with ⟨h2, -⟩ | ⟨r', cp, cur, q1, q0, q3, -⟩
  · rw [← Cm.rowOf_own A n cap, h2] at hr; cases hr
  · rw [← Cm.rowOf_own A n cap, q1] at hr
    obtain rfl : r' = r := Option.some.inj hr
    exact ⟨(Array.getElem?_eq_some_iff.1 q3).1, q0⟩

theorem ERow.later {w w' : World} {base : Nat} {A : Option Addr} {cap n : Nat} {es : List EV} (h : ERow w base A cap n es) (hb : Below w.heap.size w w') : ERow w' base A cap n es := by
  obtain ⟨h0, xs, h1, h3⟩ := h
  exact ⟨h0, xs, own_keep h1 hb, fun i hi => (h3 i hi).keep hb.size (fun b hlt _ => hb.block b hlt)⟩

theorem ERow.read {w : World} {base : Nat} {A : Option Addr} {cap n : Nat} {es : List EV} (h : ERow w base A cap n es) : EvsIn w A cap es := by
  obtain ⟨rfl, xs, h1, h3⟩ := h
  rcases h1.2 with ⟨hv, h0⟩ | ⟨r, cp, cur, q1, q2, q3, q4, q5, q6, q7⟩
  · injection hv with hA hn hc
    exact ⟨by omega, by rw [hc]; exact Nat.zero_le _, fun hp => absurd hp (by omega)⟩
  · injection q1 with hA hn hc
    subst hc
    refine ⟨q4, q5, fun hp => ⟨r, 0, hA, (Array.getElem?_eq_some_iff.1 q3).1, fun i hi => ?_⟩⟩
    obtain ⟨lo, hi', vk, vn, vf, vs, A', m, c, h1, h2, h5, -, h6⟩ := h3 i hi
    refine ⟨lo, hi', vk, vn, vf, vs, A', m, c, h1, h2, h5, fun q hq => ?_⟩
    rw [← h6 q hq, ← q7, List.getElem?_take_of_lt (by omega), Array.getElem?_toList]
    simp [World.cell?, q3]

/-- A batch in a box. -/
def BB (w : World) (g : Nat) (f : ByteArray) (at' : Nat) (A : Option Addr) (n c : Nat) : Prop := w.heap[g]? = some (.cells #[.string f, .int .u64 at', .slice A n c] 27 (0, 0))
theorem BB.cells {w : World} {g : Nat} {f : ByteArray} {at' : Nat} {A : Option Addr} {n c : Nat} (h : BB w g f at' A n c) :
    w.cell? ⟨g, 0, none⟩ = some (.string f) ∧ w.cell? ⟨g, 1, none⟩ = some (.int .u64 at') ∧ w.cell? ⟨g, 2, none⟩ = some (.slice A n c) ∧ ∀ o, w.frozen? ⟨g, o, none⟩ = false := by
  unfold BB at h; simp [World.cell?, World.frozen?, h]
theorem BB.later {w w' : World} {g B : Nat} {f : ByteArray} {at' : Nat} {A : Option Addr} {n c : Nat} (h : BB w g f at' A n c) (hb : Below B w w') (hg : g < B) : BB w' g f at' A n c := (hb.block g hg).trans h
theorem BB.lt {w : World} {g : Nat} {f : ByteArray} {at' : Nat} {A : Option Addr} {n c : Nat} (h : BB w g f at' A n c) : g < w.heap.size := (Array.getElem?_eq_some_iff.1 h).1
theorem BB.set {w : World} {g : Nat} {f : ByteArray} {at' : Nat} {A A2 : Option Addr} {n c n2 c2 : Nat} (h : BB w g f at' A n c) : BB (w.setCell ⟨g, 2, none⟩ (.slice A2 n2 c2)) g f at' A2 n2 c2 := by
  unfold BB at h ⊢; simp [World.setCell, Array.getElem?_modify, h]
theorem BB.far {w : World} {g b o : Nat} {f : ByteArray} {at' : Nat} {A : Option Addr} {n c : Nat} (h : BB w g f at' A n c) (hb : b ≠ g) (v : Value) : BB (w.setCell ⟨b, o, none⟩ v) g f at' A n c :=
  (Below.heap_setCell w ⟨b, o, none⟩ v g (fun e => hb e.symm)).trans h

end Cn
end Go.Proofs.YtcbddebmmaflgaaGreat
namespace Go.Proofs.YtcbddebmmaflgaaGreat
open Go.RowKit
set_option linter.unusedVariables false
set_option linter.unusedSimpArgs false
namespace Cn
open Nm (bitsW ret_int ret_bool)
open Vt (VT Rep BoxAt below_drew put5 KidsAt HeadOk)
open Ev (EV FieldsOk evCells vCells EBox ERep zeroT take_drop tk cons_drop)
open Cm (rowOf EvsIn EvsAt EvNew evSame)

theorem box_ev (w : World) (e : EV) (vk vn : Int) (vf : Nat) (vs : ByteArray) (A : Option Addr) (m c : Nat) : EBox (w.alloc (.cells (evCells e vk vn vf vs A m c) 44)) w.heap.size (evCells e vk vn vf vs A m c) := heap_alloc_new w _
theorem ebox_free {w : World} {g : Nat} {cs : Array Value} (h : EBox w g cs) (o : Nat) : w.frozen? ⟨g, o, none⟩ = false := by unfold EBox at h; simp [World.frozen?, h]
end Cn
end Go.Proofs.YtcbddebmmaflgaaGreat
namespace Go.Proofs.YtcbddebmmaflgaaGreat
open Go.RowKit
set_option linter.unusedVariables false
set_option linter.unusedSimpArgs false
namespace Cn
open Nm (bitsW ret_int ret_bool)
open Vt (VT Rep BoxAt below_drew put5 KidsAt HeadOk)
open Ev (EV FieldsOk evCells vCells EBox ERep zeroT take_drop tk cons_drop)
open Cm (rowOf EvsIn EvsAt EvNew evSame)

/-- A function that answers a question of an event. -/
def Asks (g : Nat) (p : EV → Bool) (es : List EV) : Prop := ∀ (e : EV) (_ : e ∈ es) (lo hi : Nat) (vk vn : Int) (vf : Nat) (vs : ByteArray) (A : Option Addr) (m c : Nat) (w : World), FieldsOk e → Rep w lo hi e.v (vCells vk vn vf vs A m c) → hi ≤ w.heap.size →
  Calls Tryz.prog g #[.agg (evCells e vk vn vf vs A m c)] w fun r w' => r = .returned (.bool (p e)) ∧ Below w.heap.size w w'

/-- The first event of which the question is answered 'yes', or none. -/
def Found (p : EV → Bool) (es : List EV) (i : Int) : Prop := (i = -1 ∧ ∀ m (h : m < es.length), p es[m] = false) ∨ ∃ n : Nat, i = n ∧ ∃ h : n < es.length, p es[n] = true ∧ ∀ m (h : m < es.length), m < n → p es[m] = false

set_option maxRecDepth 100000 in
set_option maxHeartbeats 2000000 in
theorem ifunc_any (g : Nat) (hcall : ∀ args w, (callFunc g args).run Tryz.prog w = .ok (.enter g args) w) (p : EV → Bool) (es : List EV) (hG : Asks g p es) (A : Option Addr) (cap : Nat) (w : World) (h : EvsIn w A cap es) :
    Calls Tryz.prog 69 #[.slice A es.length cap, .func (.func g) #[] #[]] w fun r w' => ∃ i, r = .returned (.int .i64 i) ∧ Found p es i ∧ Below w.heap.size w w' := by
  have hl := h.le
  have hc := h.cap_le
  simp only [maxLen] at hc
  have HK := Lib.hid h; clear h
  have HG := Lib.hid hG; clear hG
  go_enter Tryz.func69, Tryz.ntmps69
  go_wp2_with fail
  go_loopw [4, 8] (fun o i wr => ∃ (j : Nat), j ≤ es.length ∧ i = .int .i64 j ∧ o = .int .i64 0 ∧ (∀ m (h : m < es.length), m < j → p es[m] = false) ∧ Below w.heap.size w wr) (fun _ i _ => es.length - (intOf i).toNat)
  case atStart => exact ⟨0, by omega, rfl, rfl, fun m _ h => absurd h (by omega), Below.refl _ _⟩
  case round =>
    obtain ⟨j, hj, rfl, rfl, hno, hb⟩ := hrel
    have HNO := Lib.hid hno; have HB := Lib.hid hb
    clear hno hb
    by_cases hlt : j < es.length
    · obtain ⟨b, off, lo, hi, vk, vn, vf, vs, A', m, c, rfl, hbl, hf, hv, hhi, d0, d1, d2, d3, d4, d5, d6, d7, d8, d9, d10⟩ := (HK.out.later HB.out).get j hlt
      have HC := Lib.hid (HG.out es[j] (List.getElem_mem hlt) lo hi vk vn vf vs A' m c wr hf hv hhi)
      unfold evCells at HC
      clear hf hv
      go_wp2_with fail
      refine HC.out.mono ?_
      rintro x w1 ⟨rfl, hb1⟩
      have HB1 := Lib.hid (HB.out.trans (hb1.mono HB.out.size))
      clear hb1 d0 d1 d2 d3 d4 d5 d6 d7 d8 d9 d10 HC
      cases hp : p es[j] with
      | true =>
        have HP := Lib.hid hp; clear hp
        go_wp2_with fail
        go_ret
        exact ⟨_, rfl, .inr ⟨j, rfl, hlt, HP.out, HNO.out⟩, HB1.out⟩
      | false =>
        have HP := Lib.hid hp; clear hp
        go_wp2_with fail
        go_roundw
        case rel => exact ⟨j + 1, by omega, by go_num, rfl, fun m h hm => by
          rcases Nat.lt_or_ge m j with q | q
          · exact HNO.out m h q
          · obtain rfl : m = j := by omega
            exact HP.out, HB1.out⟩
        case measure => simp [intOf]; omega
    · have hj' : j = es.length := by omega
      subst hj'
      go_wp2_with fail
      go_ret
      exact ⟨_, rfl, .inl ⟨rfl, fun m h => HNO.out m h h⟩, HB.out⟩

end Cn
end Go.Proofs.YtcbddebmmaflgaaGreat
namespace Go.Proofs.YtcbddebmmaflgaaGreat
open Go.RowKit
set_option linter.unusedVariables false
set_option linter.unusedSimpArgs false
namespace Cn
open Nm (bitsW ret_int ret_bool)
open Vt (VT Rep BoxAt below_drew put5 KidsAt HeadOk)
open Ev (EV FieldsOk evCells vCells EBox ERep zeroT take_drop tk cons_drop)
open Cm (rowOf EvsIn EvsAt EvNew evSame)

def wrongE (e : EV) : Bool := !e.valid
theorem call_wrong (args : Array Value) (w : World) : (callFunc 53 args).run Tryz.prog w = .ok (.enter 53 args) w := by kernel_rfl
theorem asks_wrong (es : List EV) : Asks 53 wrongE es := by
  intro e _ lo hi vk vn vf vs A m c w hf hv hz
  obtain ⟨W0, hW0⟩ : ∃ W0, W0 = w.alloc (.cells (evCells e vk vn vf vs A m c) 44) := ⟨_, rfl⟩
  have hb0 : Below w.heap.size w W0 := by rw [hW0]; exact (Below.refl _ _).alloc (Nat.le_refl _) _
  have hx0 : EBox W0 w.heap.size (evCells e vk vn vf vs A m c) := by rw [hW0]; exact box_ev ..
  have HV := Lib.hid (Ev.evalid_any e W0 lo hi _ ⟨hf, vk, vn, vf, vs, A, m, c, rfl, hv.later (hb0.mono hz)⟩ (Nat.le_trans hz hb0.size))
  obtain ⟨g0, g1, g2, g3, g4, g5, g6, g7, g8, g9, g10⟩ := EBox.cells hx0
  have HB0 := Lib.hid hb0
  clear hv hf hx0 hb0
  unfold evCells at HV hW0 ⊢
  replace hW0 := Lib.hid hW0
  go_enter Tryz.func53, Tryz.ntmps53
  go_upto_region 1 with fail
  rw [← hW0.out]
  go_wp2_with fail
  refine HV.out.mono ?_
  rintro x w1 ⟨rfl, hb1⟩
  have HB1 := Lib.hid (HB0.out.trans (hb1.mono HB0.out.size))
  clear hb1 g0 g1 g2 g3 g4 g5 g6 g7 g8 g9 g10
  go_wp2_with fail
  go_ret
  exact ⟨ret_bool (by simp [wrongE]), HB1.out⟩

theorem found_any {p : EV → Bool} {es : List EV} {i : Int} (h : Found p es i) : decide (0 ≤ i) = es.any p := by
  rcases h with ⟨rfl, h⟩ | ⟨n, rfl, hn, hp, -⟩
  · have : es.any p = false := by
      rw [List.any_eq_false]
      intro e he
      obtain ⟨m, hm, rfl⟩ := List.getElem_of_mem he
      simp [h m hm]
    rw [this]; rfl
  · have : es.any p = true := List.any_eq_true.2 ⟨_, List.getElem_mem hn, hp⟩
    rw [this]; simp

theorem contains_any (g : Nat) (hcall : ∀ args w, (callFunc g args).run Tryz.prog w = .ok (.enter g args) w) (p : EV → Bool) (es : List EV) (hG : Asks g p es) (A : Option Addr) (cap : Nat) (w : World) (h : EvsIn w A cap es) :
    Calls Tryz.prog 52 #[.slice A es.length cap, .func (.func g) #[] #[]] w fun r w' => r = .returned (.bool (es.any p)) ∧ Below w.heap.size w w' := by
  have HI := Lib.hid (ifunc_any g hcall p es hG A cap w h)
  clear h hG
  go_enter Tryz.func52, Tryz.ntmps52
  go_wp2_with fail
  refine HI.out.mono ?_
  rintro x w1 ⟨i, rfl, hfound, hb1⟩
  have HB1 := Lib.hid hb1
  have HF := Lib.hid (found_any hfound)
  clear hb1 hfound
  go_wp2_with fail
  go_ret
  exact ⟨ret_bool (by rw [← HF.out]), HB1.out⟩

/-- Is a batch valid? -/
def bvalid (f : ByteArray) (at' : Nat) (es : List EV) : Bool := !f.toList.isEmpty && decide (f.size ≤ 1000) && decide (at' ≤ 9223372036854775807) && decide (0 < es.length) && !es.any wrongE

set_option maxRecDepth 100000 in
set_option maxHeartbeats 1000000 in
theorem bvalid_any (es : List EV) (f : ByteArray) (hfs : f.size ≤ maxLen) (at' : Nat) (hat : at' < 18446744073709551616) (A : Option Addr) (cap : Nat) (w : World) (h : EvsIn w A cap es) :
    Calls Tryz.prog 19 #[.agg #[.string f, .int .u64 at', .slice A es.length cap]] w fun r w' => r = .returned (.bool (bvalid f at' es)) ∧ Below w.heap.size w w' := by
  simp only [maxLen] at hfs
  have hle := h.le
  have hc := h.cap_le
  simp only [maxLen] at hc
  obtain ⟨W0, hW0⟩ : ∃ W0, W0 = w.alloc (.cells #[.string f, .int .u64 at', .slice A es.length cap] 27) := ⟨_, rfl⟩
  have hx0 : BB W0 w.heap.size f at' A es.length cap := by rw [hW0]; exact heap_alloc_new w _
  have hb0 : Below w.heap.size w W0 := by rw [hW0]; exact (Below.refl _ _).alloc (Nat.le_refl _) _
  have hz0 : W0.heap.size = w.heap.size + 1 := by rw [hW0]; simp
  have HC := Lib.hid (contains_any 53 call_wrong wrongE es (asks_wrong es) A cap W0 (h.later hb0))
  obtain ⟨c0, c1, c2, -⟩ := hx0.cells
  have HX0 := Lib.hid hx0; have HB0 := Lib.hid hb0
  replace hW0 := Lib.hid hW0
  clear h hx0 hb0
  go_enter Tryz.func19, Tryz.ntmps19
  go_upto_region 1 with fail
  rw [← hW0.out]
  go_upto_region 2 with (go_at_call 52; refine HC.out.mono ?_; rintro x w1 ⟨rfl, hb1⟩; have HB1 := Lib.hid hb1; obtain ⟨d0, d1, d2, -⟩ := (HX0.out.later hb1 (by omega)).cells; clear hb1)
  clear c0 c1 c2
  have HBF : Hid (Below w.heap.size w w1) := Lib.hid (HB0.out.trans (HB1.out.mono HB0.out.size))
  generalize ha : es.any wrongE = any at *
  have HA := Lib.hid ha; clear ha
  cases h1 : f.toList.isEmpty with
  | true =>
    have H1 := Lib.hid h1
    go_wp2_with fail
    go_ret
    exact ⟨ret_bool (by unfold bvalid; rw [H1.out]; rfl), HBF.out⟩
  | false =>
    have H1 := Lib.hid h1
    by_cases h2 : f.size ≤ 1000
    · have g2 : decide ((f.size : Int) ≤ 1000) = true := by simp; omega
      by_cases h3 : at' ≤ 9223372036854775807
      · have g3 : decide ((at' : Int) ≤ 9223372036854775807) = true := decide_eq_true (by omega)
        by_cases h4 : 0 < es.length
        · have g4 : decide ((0 : Int) < es.length) = true := decide_eq_true (by omega)
          have HN := Lib.hid (And.intro h2 (And.intro h3 h4))
          clear h2 h3
          cases any with
          | true =>
            go_wp2_with fail
            go_ret
            exact ⟨ret_bool (by unfold bvalid; rw [HA.out]; simp), HBF.out⟩
          | false =>
            go_wp2_with fail
            go_ret
            exact ⟨ret_bool (by obtain ⟨z1, z2, z3⟩ := HN.out; unfold bvalid; rw [HA.out, H1.out, decide_eq_true z1, decide_eq_true z2, decide_eq_true z3]; rfl), HBF.out⟩
        · have g4 : decide ((0 : Int) < es.length) = false := decide_eq_false (by omega)
          have HN := Lib.hid h4
          go_wp2_with fail
          go_ret
          exact ⟨ret_bool (by unfold bvalid; rw [decide_eq_false HN.out]; simp), HBF.out⟩
      · have g3 : decide ((at' : Int) ≤ 9223372036854775807) = false := decide_eq_false (by omega)
        have HN := Lib.hid h3
        clear h3
        go_wp2_with fail
        go_ret
        exact ⟨ret_bool (by unfold bvalid; rw [decide_eq_false HN.out]; simp), HBF.out⟩
    · have g2 : decide ((f.size : Int) ≤ 1000) = false := by simp; omega
      have HN := Lib.hid h2
      go_wp2_with fail
      go_ret
      exact ⟨ret_bool (by unfold bvalid; rw [decide_eq_false HN.out]; simp), HBF.out⟩
end Cn
end Go.Proofs.YtcbddebmmaflgaaGreat
namespace Go.Proofs.YtcbddebmmaflgaaGreat
open Go.RowKit
namespace Rt
section
variable {F : Fence} {n : Nat} {P : Program}

/-- How the body of a round may be left: where it goes on, A; where it leaves by c, B c. -/
def leftPost (A : World → Prop) (B : Code → World → Prop) (W : World) : Exit → Act → World → Prop
  | .normal, _, W' => KeepsOthers W W' ∧ A W'
  | .ret, _, W' => KeepsOthers W W' ∧ B .ret W'
  | .exit id, _, W' => KeepsOthers W W' ∧ B (.exit id) W'
  | .goto t, _, W' => KeepsOthers W W' ∧ B (.goto t) W'
  | .panic _, _, _ => False
  | .outgrown, _, _ => False

/-- What the law's own book-keeping turns: a block at or beyond m that holds no cells. -/
def Abides (m : Nat) (X : World → Prop) : Prop := ∀ W l o o', X W → m ≤ l → W.heap[l]? = some o → o.isCells = false → X (W.putObj l o')

theorem range_law {σ : Type} {g : Operand} {ps : Array Tmp} {assign body : Code} {Q : Exit → Act → World → Prop} {a : Act} {w : World}
    (hro : F.round = none) (h1 : 1 ≤ n) {gf : Nat} {lb : Array Value} (hg : a.eval g = .func (.func gf) #[] lb) (hFg : F.fn gf) (eg : ∀ args w, (callFunc gf args).run P w = .ok (.enter gf args) w)
    (encs : σ → Array Value) (hps : ∀ s, (encs s).size = ps.size)
    (I A : σ → World → Prop) (B : Code → World → Prop) (Z : World → Prop)
    (tI : ∀ s, Abides w.heap.size (I s)) (tA : ∀ s, Abides w.heap.size (A s)) (tB : ∀ c, Abides w.heap.size (B c)) (tZ : Abides w.heap.size Z)
    (a₁ : σ → Act)
    (hassign : ∀ (l : Nat) (s : σ) (W : World) (K : Act → World → Prop), K (a₁ s) W →
      assign.wpIn (F.inRound l) (n - 1 - 1) P (Exit.then K (fun _ _ _ => False)) { tmps := (ps.zip (encs s)).foldl (fun t (p, v) => t.setIfInBounds p v) a.tmps, defers := [] } W)
    (hbody : ∀ (l : Nat) (s : σ) (W : World), I s W → body.wpIn (F.inRound l) (n - 1 - 1) P (leftPost (A s) B W) (a₁ s) W)
    (hiter : ∀ (l : Nat) (o o' : Obj) (L : World → Prop) (L' : Code → World → Prop), o.isCells = false → o'.isCells = false →
      (∀ W (x : Addr) v, x.block < w.heap.size → L W → L (W.setCell x v)) → (∀ W, L W → L W.drew) →
      (∀ s W, I s W → L W → YieldAt F (n - 1 - 1) P l (encs s) W fun e W' => (e = .returned (.bool true) ∧ A s W' ∧ L W') ∨ (e = .returned (.bool false) ∧ ∃ c, B c W' ∧ L' c W')) →
      L ((w.alloc o).alloc o') →
      CallsIn F (n - 1) P gf (#[.func (.yield l) #[] #[]] ++ lb) ((w.alloc o).alloc o') fun e W' => (∃ v, e = .returned v) ∧ ((Z W' ∧ L W') ∨ ∃ c, B c W' ∧ L' c W'))
    (hdone : ∀ (D : Nat) (W : World), w.heap.size ≤ D → Z W → W.heap[D]? = some (.deferred (some [])) → Q .normal { a with defers := { target := .collected D, args := #[] } :: a.defers } W)
    (hstop : ∀ (D : Nat) (c : Code) (W : World), w.heap.size ≤ D → B c W → W.heap[D]? = some (.deferred (some [])) → c.wpIn F n P Q { a with defers := { target := .collected D, args := #[] } :: a.defers } W) :
    (Code.rangeFunc g ps assign body).wpIn F n P Q a w := by
  refine wpIn_rangeFunc fun fn hfn => ?_
  rw [hro]
  -- the loop's record in each of its states
  let rec' : LoopState → Option Code → Loop := fun st pe => { state := st, pending := pe, fn, tmps := a.tmps, params := ps, assign, body, defers := w.heap.size }
  have nl : ∀ st pe, (Obj.loop (rec' st pe)).isCells = false := fun _ _ => rfl
  let D := w.heap.size
  let l := w.heap.size + 1
  let W1 := (w.alloc (.deferred (some []))).alloc (.loop (rec' .ready none))
  have hl1 : W1.heap[l]? = some (.loop (rec' .ready none)) := by
    have := World.alloc_heap_new (w.alloc (.deferred (some []))) (.loop (rec' .ready none)); rwa [World.size_alloc] at this
  have hd1 : W1.heap[D]? = some (.deferred (some [])) := (Below.heap_alloc _ _ _ (by simp [D])).trans (World.alloc_heap_new w _)
  refine ⟨l, [{ target := .collected D, args := #[] }], W1, { target := .fn (.func gf) lb, args := #[.func (.yield l) #[] #[]] }, W1, gf, #[.func (.yield l) #[] #[]] ++ lb, W1, run_enterLoop_outer _ _ _ _ _, ?_, ?_, ?_, fun _ => h1, ?_⟩
  · simp only [resolve, hg]; simp [go_sem]
  · intro f' hf'; simp [Target.leads] at hf'; subst hf'; exact hFg
  · simp [invoke, go_sem, eg]
  · refine (hiter l (.deferred (some [])) (.loop (rec' .ready none))
      (fun W => W.heap[l]? = some (.loop (rec' .ready none)) ∧ W.heap[D]? = some (.deferred (some [])))
      (fun c W => W.heap[l]? = some (.loop (rec' .done (some c))) ∧ W.heap[D]? = some (.deferred (some [])))
      rfl rfl
      (fun W x v hx h => ⟨(Below.heap_setCell W x v l (by simp only [l]; omega)).trans h.1, (Below.heap_setCell W x v D (by simp only [D]; omega)).trans h.2⟩)
      (fun W h => h) ?_ ⟨hl1, hd1⟩).mono ?_
    · -- one round
      rintro s W hi ⟨hl, hd⟩
      have hy := run_yield (P := P) (args := encs s) hl (hps s)
      refine ⟨fn, _, assign, body, hy, roundIn_of_wpIn hfn (hassign l s W _ ⟨_, run_beginRound hl rfl, ?_⟩)⟩
      have hlt : l < W.heap.size := (Array.getElem?_eq_some_iff.1 hl).1
      have hDl : D ≠ l := by simp only [D, l]; omega
      refine wpIn_mono (hbody l s _ (tI s W l _ _ hi (by simp only [l]; omega) hl (nl _ _))) ?_
      have fin : ∀ (jump : Option Code) (W3 : World), KeepsOthers (W.putObj l (.loop { rec' .ready none with state := .busy })) W3 →
          W3.heap[l]? = some (.loop { rec' .ready none with state := .busy }) ∧
          (Instr.endRound l jump).run P W3 = .ok (.bool jump.isNone) (W3.putObj l (.loop (rec' (if jump.isNone then .ready else .done) jump))) ∧
          (W3.putObj l (.loop (rec' (if jump.isNone then .ready else .done) jump))).heap[l]? = some (.loop (rec' (if jump.isNone then .ready else .done) jump)) ∧
          (W3.putObj l (.loop (rec' (if jump.isNone then .ready else .done) jump))).heap[D]? = some (.deferred (some [])) := fun jump W3 hk => by
        have h3 := hk.same _ _ (World.putObj_heap_same hlt) rfl
        have d3 := hk.same _ _ ((World.putObj_heap_other (o := .loop { rec' .ready none with state := .busy }) hDl).trans hd) rfl
        exact ⟨h3, run_endRound (P := P) jump h3, World.putObj_heap_same (Array.getElem?_eq_some_iff.1 h3).1, (World.putObj_heap_other hDl).trans d3⟩
      rintro e a3 W3 hp
      cases e with
      | normal =>
        obtain ⟨hk, ha⟩ := hp
        obtain ⟨h3, hr, hl4, hd4⟩ := fin none W3 hk
        exact ⟨_, _, hr, .inl ⟨rfl, tA s W3 l _ _ ha (by simp only [l]; omega) h3 rfl, hl4, hd4⟩⟩
      | ret =>
        obtain ⟨hk, hb⟩ := hp
        obtain ⟨h3, hr, hl4, hd4⟩ := fin (some .ret) W3 hk
        exact ⟨_, _, hr, .inr ⟨rfl, .ret, tB _ W3 l _ _ hb (by simp only [l]; omega) h3 rfl, hl4, hd4⟩⟩
      | exit id =>
        obtain ⟨hk, hb⟩ := hp
        obtain ⟨h3, hr, hl4, hd4⟩ := fin (some (.exit id)) W3 hk
        exact ⟨_, _, hr, .inr ⟨rfl, .exit id, tB _ W3 l _ _ hb (by simp only [l]; omega) h3 rfl, hl4, hd4⟩⟩
      | goto t =>
        obtain ⟨hk, hb⟩ := hp
        obtain ⟨h3, hr, hl4, hd4⟩ := fin (some (.goto t)) W3 hk
        exact ⟨_, _, hr, .inr ⟨rfl, .goto t, tB _ W3 l _ _ hb (by simp only [l]; omega) h3 rfl, hl4, hd4⟩⟩
      | panic ch => exact hp.elim
      | outgrown => exact hp.elim
    · -- behind the iterator
      have hDl : D ≠ l := by simp only [D, l]; omega
      rintro e W2 ⟨⟨v, rfl⟩, ⟨hz, hl, hd⟩ | ⟨c, hb, hl, hd⟩⟩
      · exact ⟨none, _, run_endLoop (P := P) hl (by simp [rec']), hdone D _ (Nat.le_refl _) (tZ W2 l _ _ hz (by simp only [l]; omega) hl rfl) ((World.putObj_heap_other hDl).trans hd)⟩
      · exact ⟨some c, _, run_endLoop (P := P) hl (by simp [rec']), hstop D c _ (Nat.le_refl _) (tB c W2 l _ _ hb (by simp only [l]; omega) hl rfl) ((World.putObj_heap_other hDl).trans hd)⟩
end
end Rt
end Go.Proofs.YtcbddebmmaflgaaGreat
namespace Go.Proofs.YtcbddebmmaflgaaGreat
open Go.RowKit
set_option linter.unusedVariables false
namespace Bt
open Nm (ret_int ret_bool)
attribute [local go_sem] Oper.semAt_some

/-- The byte that goes out at y; the bytes of a number. -/
def ub (y : Nat) : Nat := if y < 128 then y else y % 128 + 128
def ubytes : Nat → Nat → List Nat
  | 0, y => [y]
  | f + 1, y => if y < 128 then [y] else (y % 128 + 128) :: ubytes f (y / 128)
theorem or_all : ∀ r : Fin 256, bits BinOp.or IntKind.u8 (r.val : Int) 128 = ((r.val % 128 + 128 : Nat) : Int) := by decide +kernel
theorem or_128 (y : Nat) (h : 128 ≤ y) : bits BinOp.or IntKind.u8 ((y : Int) % 256) 128 = ((ub y : Nat) : Int) := by
  have := or_all ⟨y % 256, Nat.mod_lt _ (by omega)⟩
  simp only at this
  rw [show ((y : Int) % 256) = ((y % 256 : Nat) : Int) from by omega, this, ub, if_neg (by omega)]
  omega

/-- The iterator's own cell. -/
def OwnX (bx y : Nat) (W : World) : Prop := W.cell? ⟨bx, 0, none⟩ = some (.int .u64 y) ∧ W.frozen? ⟨bx, 0, none⟩ = false

theorem digits_new (x : Nat) (w : World) : Calls Tryz.prog 61 #[.int .u64 x] w fun e w' => e = .returned (.func (.func 74) #[] #[.pointer (some ⟨w.heap.size, 0, none⟩)]) ∧ w.alloc (.cells #[.int .u64 x] 24) = w' := by
  go_enter Tryz.func61, Tryz.ntmps61
  go_wp2_with fail
  go_ret
  exact ⟨rfl, rfl⟩

set_option maxHeartbeats 1000000 in
set_option maxRecDepth 100000 in
theorem iter_in (n : Nat) (hn : 3 ≤ n) (l bx x : Nat) (hx : x < 18446744073709551616) (H I A : Nat × List Nat → World → Prop) (B : Code → World → Prop) (L : World → Prop) (L' : Code → World → Prop)
    (hH : ∀ s W, H s W → OwnX bx s.1 W ∧ s.1 < 18446744073709551616)
    (hHI : ∀ s W, H s W → I s W)
    (hA : ∀ s W, A s W → OwnX bx s.1 W)
    (hAH : ∀ s W, 128 ≤ s.1 → A s W → H (s.1 / 128, s.2 ++ [ub s.1]) (W.setCell ⟨bx, 0, none⟩ (.int .u64 (s.1 / 128 : Nat))))
    (hL : ∀ W v, L W → L (W.setCell ⟨bx, 0, none⟩ v))
    (hY : ∀ s W, I s W → L W → YieldAt Fence.wide (n - 1) Tryz.prog l #[.int .u8 (ub s.1 : Nat)] W fun e W' => (e = .returned (.bool true) ∧ A s W' ∧ L W') ∨ (e = .returned (.bool false) ∧ ∃ c, B c W' ∧ L' c W'))
    (W0 : World) (h0 : H (x, []) W0) (hl0 : L W0) :
    CallsIn Fence.wide n Tryz.prog 74 #[.func (.yield l) #[] #[], .pointer (some ⟨bx, 0, none⟩)] W0 fun e W' => (∃ v, e = .returned v) ∧ (((∃ s, s.1 < 128 ∧ A s W') ∧ L W') ∨ ∃ c, B c W' ∧ L' c W') := by
  refine callsIn_of_wp Tryz.func74 rfl trivial ?_ rfl
  simp only [Tryz.ntmps74, List.size_toArray, List.length_cons, List.length_nil, Nat.reduceAdd, Nat.reduceSub, Array.replicate_succ, Array.replicate_zero, List.push_toArray, List.append_toArray, List.nil_append, List.cons_append]
  gi_wp2
  gi_loopw [12] (fun z W => ∃ s : Nat × List Nat, H s W ∧ L W) (fun _ W => match W.cell? ⟨bx, 0, none⟩ with | some (.int _ v) => v.toNat | _ => 0)
  case atStart => exact ⟨(x, []), h0, hl0⟩
  case round =>
    obtain ⟨s, hh, hl⟩ := hrel
    obtain ⟨⟨c1, c2⟩, hlt⟩ := hH s _ hh
    obtain ⟨fn, tmps, assign, body, hy, hR⟩ := hY s _ (hHI s _ hh) hl
    obtain ⟨y, d⟩ := s
    simp only at c1 hlt
    by_cases hy128 : 128 ≤ y
    · have hor := or_128 y hy128
      have hnext := fun W h => hAH (y, d) W hy128 h
      simp only at hnext
      have hsh : (y : Int) / 128 = ((y / 128 : Nat) : Int) := by omega
      have HH := Lib.hid hh
      clear hh hl
      gi_wp2
      refine ⟨fun _ => by omega, hR.mono ?_⟩
      rintro e W3 (⟨rfl, ha, hl3⟩ | ⟨rfl, c, hb, hl3⟩)
      · obtain ⟨d1, d2⟩ := hA _ _ ha
        simp only at d1
        have HN := Lib.hid (hnext _ ha)
        have HL3 := Lib.hid (hL _ (.int .u64 (y / 128 : Nat)) hl3)
        clear ha hl3
        gi_wp2_with fail
        unfold Oper.wpIn
        simp [go_sem]
        rw [hsh]
        gi_wp2_with fail
        unfold Oper.wpIn
        simp [go_sem, d1, d2]
        gi_wp2_with fail
        go_roundw
        case rel => exact ⟨_, HN.out, HL3.out⟩
        case measure =>
          have hs : (W3.setCell ⟨bx, 0, none⟩ (.int .u64 ((y : Int) / 128))).cell? ⟨bx, 0, none⟩ = some (.int .u64 ((y : Int) / 128)) := World.cell?_setCell_same W3 ⟨bx, 0, none⟩ _ d1
          rw [hs, c1]
          simp
          omega
      · gi_wp2
        refine bodyPost_ret (results_none rfl _ _ _) rfl ?_
        exact ⟨⟨_, rfl⟩, .inr ⟨c, hb, hl3⟩⟩
    · have hub : ub y = y := if_pos (by omega)
      rw [hub] at hy
      have h256 : (y : Int) % 256 = y := by omega
      clear hh hl
      gi_wp2
      refine ⟨fun _ => by omega, hR.mono ?_⟩
      rintro e W3 (⟨rfl, ha, hl3⟩ | ⟨rfl, c, hb, hl3⟩)
      · gi_wp2
        go_end0
        exact ⟨⟨_, rfl⟩, .inl ⟨⟨_, by show y < 128; omega, ha⟩, hl3⟩⟩
      · gi_wp2
        go_end0
        exact ⟨⟨_, rfl⟩, .inr ⟨c, hb, hl3⟩⟩
end Bt
end Go.Proofs.YtcbddebmmaflgaaGreat
