/- Events and how they lie; contract of package event's Valid. -/
import Derived.Laws.Rows
import Derived.Laws.IdiomRangeMap
import Derived.Test.YtfmnacebgplpcaaGreatIcad
import Derived.Test.YtfmnacebgplpcaaGreatIcac
import Derived.Deep.RegionHeld3
import Derived.Deep.Cut
import Derived.Deep.CutRange
import Derived.Deep.RegionLaw
import Derived.Deep.AppendLies
import Derived.Deep.RegionWith
import Derived.Laws.EntriesVeiled
import Derived.Test.YtfmnacebgplpcaaGreatIcab
import Derived.StillTailTactics
import Derived.ChangeMaps5
import Derived.ChangeArms
import Derived.Deep.Draws
import Derived.ProofKit
import Derived.OpenShut
import Derived.Lib.SmallJoins
import Derived.SizedLaws
set_option linter.unusedVariables false
set_option linter.unusedSimpArgs false
open Go.RowKit
namespace Go.Proofs.YtfmnacebgplpcaaGreat
namespace Ev
open Nm (ret_int ret_bool)
open Vt (VT Rep BoxAt below_drew)

structure EV where mk ::
 k : Int
 id : Nat
 n : Int
 at' : Nat
 name : ByteArray
 text : ByteArray
 v : VT

structure FieldsOk (e : EV) : Prop where
 k0 : -9223372036854775808 ≤ e.k
 k1 : e.k ≤ 9223372036854775807
 i1 : e.id < 18446744073709551616
 n0 : -9223372036854775808 ≤ e.n
 n1 : e.n ≤ 9223372036854775807
 a1 : e.at' < 18446744073709551616
 s1 : e.name.size ≤ maxLen
 t1 : e.text.size ≤ maxLen

def evCells (e : EV) (vk vn : Int) (vf : Nat) (vs : ByteArray) (A : Option Addr) (m c : Nat) : Array Value :=
 #[.int .i64 e.k, .int .u64 e.id, .int .i64 e.n, .int .u64 e.at', .string e.name, .string e.text, .int .i64 vk, .int .i64 vn, .float .f64 vf, .string vs, .slice A m c]

def vCells (vk vn : Int) (vf : Nat) (vs : ByteArray) (A : Option Addr) (m c : Nat) : Value := .agg #[.int .i64 vk, .int .i64 vn, .float .f64 vf, .string vs, .slice A m c]

def ERep (w : World) (lo hi : Nat) (e : EV) (x : Value) : Prop := FieldsOk e ∧ ∃ vk vn vf vs A m c, x = .agg (evCells e vk vn vf vs A m c) ∧ Rep w lo hi e.v (vCells vk vn vf vs A m c)

def zeroT : VT := .mk 0 0 0 ⟨#[]⟩ []

def EBox (w : World) (g : Nat) (cs : Array Value) : Prop := w.heap[g]? = some (.cells cs 71 (0, 0))
theorem EBox.cells {w : World} {g : Nat} {a b c d e f h i j k l : Value} (r : EBox w g #[a, b, c, d, e, f, h, i, j, k, l]) :
  w.cell? ⟨g, 0, none⟩ = some a ∧ w.cell? ⟨g, 1, none⟩ = some b ∧ w.cell? ⟨g, 2, none⟩ = some c ∧ w.cell? ⟨g, 3, none⟩ = some d ∧ w.cell? ⟨g, 4, none⟩ = some e ∧ w.cell? ⟨g, 5, none⟩ = some f ∧ w.cell? ⟨g, 6, none⟩ = some h ∧ w.cell? ⟨g, 7, none⟩ = some i ∧ w.cell? ⟨g, 8, none⟩ = some j ∧ w.cell? ⟨g, 9, none⟩ = some k ∧ w.cell? ⟨g, 10, none⟩ = some l := by
 unfold EBox at r; simp [World.cell?, r]
theorem EBox.later {w w' : World} {g B : Nat} {cs : Array Value} (h : EBox w g cs) (hb : Below B w w') (hg : g < B) : EBox w' g cs := (hb.block g hg).trans h
theorem EBox.lt {w : World} {g : Nat} {cs : Array Value} (r : EBox w g cs) : g < w.heap.size := (Array.getElem?_eq_some_iff.1 r).1

def pickB (b f z : Bool) : Bool := if b = true then f else z
def goodL (e : EV) (b0 b1 b2 b3 b4 b5 : Bool) : List Bool :=
 [pickB b0 (decide (0 < e.id)) ((e.id : Int) == 0), pickB b1 (decide (1 ≤ e.n ∧ e.n ≤ 2147483647)) (e.n == 0), pickB b2 (decide (e.at' ≤ 9223372036854775807)) ((e.at' : Int) == 0),
 pickB b3 (!e.name.toList.isEmpty && decide (e.name.size ≤ 1000)) e.name.toList.isEmpty, pickB b4 (decide (e.text.size ≤ 1000)) e.text.toList.isEmpty, pickB b5 (e.v.valid 8) (e.v.same zeroT)]

theorem ix0 (x0 x1 x2 x3 x4 x5 : Value) (w : World) : (Instr.index 159 (.agg #[x0, x1, x2, x3, x4, x5]) (.int .i64 0)).run Tryz.prog w = .ok x0 w := by kernel_rfl
theorem ix1 (x0 x1 x2 x3 x4 x5 : Value) (w : World) : (Instr.index 159 (.agg #[x0, x1, x2, x3, x4, x5]) (.int .i64 1)).run Tryz.prog w = .ok x1 w := by kernel_rfl
theorem ix2 (x0 x1 x2 x3 x4 x5 : Value) (w : World) : (Instr.index 159 (.agg #[x0, x1, x2, x3, x4, x5]) (.int .i64 2)).run Tryz.prog w = .ok x2 w := by kernel_rfl
theorem ix3 (x0 x1 x2 x3 x4 x5 : Value) (w : World) : (Instr.index 159 (.agg #[x0, x1, x2, x3, x4, x5]) (.int .i64 3)).run Tryz.prog w = .ok x3 w := by kernel_rfl
theorem ix4 (x0 x1 x2 x3 x4 x5 : Value) (w : World) : (Instr.index 159 (.agg #[x0, x1, x2, x3, x4, x5]) (.int .i64 4)).run Tryz.prog w = .ok x4 w := by kernel_rfl
theorem ix5 (x0 x1 x2 x3 x4 x5 : Value) (w : World) : (Instr.index 159 (.agg #[x0, x1, x2, x3, x4, x5]) (.int .i64 5)).run Tryz.prog w = .ok x5 w := by kernel_rfl

section
variable {P : Program} {ops : Array Oper} {Q : Exit → Act → World → Prop} {md : Region.Mode} {S : World → Prop}
theorem drop_get {i : Nat} {oi : Oper} {rest : List Oper} (hi : ops.toList.drop i = oi :: rest) : ops[i]? = some oi := by
 have h : (ops.toList.drop i)[0]? = some oi := by rw [hi]; rfl
 rw [List.getElem?_drop] at h
 simpa using h
theorem take_drop {i : Nat} {oi : Oper} {rest : List Oper} {v : Value} {fuel : Nat} {listed : Array Bool} {a : Act} {w : World} (hi : ops.toList.drop i = oi :: rest)
  (hs : Region.noSelect ops = true) (hf : Region.free md ops listed i = true) (hr : (Region.ready md ops listed).contains i = true)
  (hQ : ∀ c a w, Q (.panic c) (a.put oi.dst v) w → Q (.panic c) a w) (hy : YieldsIf P ops S oi v a) (hS : S w)
  (h : wpAnyH P md ops Q S fuel (listed.setIfInBounds i true) (a.put oi.dst v) w) : wpAnyH P md ops Q S (fuel + 1) listed a w :=
 wpAnyH_take (drop_get hi) hs hf hr hQ hy hS h
theorem tk (i : Nat) {oi : Oper} {rest : List Oper} {v : Value} {fuel : Nat} {listed : Array Bool} {a : Act} {w : World} (hi : ops.toList.drop i = oi :: rest)
  (h : wpAnyH P md ops Q S fuel (listed.setIfInBounds i true) (a.put oi.dst v) w)
  (hy : YieldsIf P ops S oi v a := by first | exact Or.inl ⟨by rfl, by intro w hSw; (try dsimp only at hSw); go_simp; try with_reducible rfl⟩ | exact Or.inr ⟨by rfl, rfl⟩)
  (hs : Region.noSelect ops = true := by kernel_rfl) (hf : Region.free md ops listed i = true := by kernel_rfl) (hr : (Region.ready md ops listed).contains i = true := by kernel_rfl)
  (hQ : ∀ c a w, Q (.panic c) (a.put oi.dst v) w → Q (.panic c) a w := by exact fun _ _ _ h => h) (hS : S w := by assumption) : wpAnyH P md ops Q S (fuel + 1) listed a w := take_drop hi hs hf hr hQ hy hS h
theorem ap : (∀ (a : Act) (d : Tmp) (v : Value), a.put (some d) v = { a with tmps := a.tmps.setIfInBounds d v }) ∧ (∀ (a : Act) (v : Value), a.put none v = a) ∧ (∀ (l : List Value) (i : Nat) (x : Value), l.toArray.setIfInBounds i x = (l.set i x).toArray) ∧ (∀ (a b : Value) (l : List Value), (a :: l).set 0 b = b :: l) ∧ (∀ (a b : Value) (l : List Value) (n : Nat), (a :: l).set (n + 1) b = a :: l.set n b) :=
 ⟨fun _ _ _ => rfl, fun _ _ => rfl, fun _ _ _ => List.setIfInBounds_toArray .., fun _ _ _ => rfl, fun _ _ _ _ => rfl⟩
theorem cons_drop {fuel : Nat} {listed : Array Bool} {a : Act} {w : World} {i : Nat} {o : Oper} {rest : List Oper} {rs : List Nat} (ho : ops.toList.drop i = o :: rest)
  (h : ∀ K' : Act → World → Prop, Shut (∀ a w, S w → (S w → wpAnyH P md ops Q S fuel (listed.setIfInBounds i true) a w) → K' a w) → if Region.wanted o (yielded ops a.tmps) = true then Oper.wp P o a w K' Q else K' (a.put o.dst undef) w)
  (hs : AllReadyH P md ops Q S fuel listed a w rs) : AllReadyH P md ops Q S fuel listed a w (i :: rs) := AllReadyH.cons (drop_get ho) h hs
theorem rd1 (i : Nat) {oi : Oper} {rest : List Oper} {fuel : Nat} {listed : Array Bool} {a : Act} {w : World} (ho : ops.toList.drop i = oi :: rest)
  (h : ∀ K' : Act → World → Prop, Shut (∀ a w, S w → (S w → wpAnyH P md ops Q S fuel (listed.setIfInBounds i true) a w) → K' a w) → if Region.wanted oi (yielded ops a.tmps) = true then Oper.wp P oi a w K' Q else K' (a.put oi.dst undef) w)
  (hr : Region.ready md ops listed = [i] := by kernel_rfl) : wpAnyH P md ops Q S (fuel + 1) listed a w := wpAnyH_ready hr (by simp) (cons_drop ho h AllReadyH.nil)
theorem rd2 (i j : Nat) {oi oj : Oper} {rest rest' : List Oper} {fuel : Nat} {listed : Array Bool} {a : Act} {w : World} (ho : ops.toList.drop i = oi :: rest) (ho' : ops.toList.drop j = oj :: rest')
  (h : ∀ K' : Act → World → Prop, Shut (∀ a w, S w → (S w → wpAnyH P md ops Q S fuel (listed.setIfInBounds i true) a w) → K' a w) → if Region.wanted oi (yielded ops a.tmps) = true then Oper.wp P oi a w K' Q else K' (a.put oi.dst undef) w)
  (h' : ∀ K' : Act → World → Prop, Shut (∀ a w, S w → (S w → wpAnyH P md ops Q S fuel (listed.setIfInBounds j true) a w) → K' a w) → if Region.wanted oj (yielded ops a.tmps) = true then Oper.wp P oj a w K' Q else K' (a.put oj.dst undef) w)
  (hr : Region.ready md ops listed = [i, j] := by kernel_rfl) : wpAnyH P md ops Q S (fuel + 1) listed a w := wpAnyH_ready hr (by simp) (cons_drop ho h (cons_drop ho' h' AllReadyH.nil))
end

theorem six_cells {w : World} {g : Nat} {t : TypeId} {a b c d e f : Value} (h : w.heap[g]? = some (.cells #[a, b, c, d, e, f] t (0, 0))) :
  w.cell? ⟨g, 0, none⟩ = some a ∧ w.cell? ⟨g, 1, none⟩ = some b ∧ w.cell? ⟨g, 2, none⟩ = some c ∧ w.cell? ⟨g, 3, none⟩ = some d ∧ w.cell? ⟨g, 4, none⟩ = some e ∧ w.cell? ⟨g, 5, none⟩ = some f ∧
   w.frozen? ⟨g, 0, none⟩ = false ∧ w.frozen? ⟨g, 1, none⟩ = false ∧ w.frozen? ⟨g, 2, none⟩ = false ∧ w.frozen? ⟨g, 3, none⟩ = false ∧ w.frozen? ⟨g, 4, none⟩ = false ∧ w.frozen? ⟨g, 5, none⟩ = false := by
 simp [World.cell?, World.frozen?, h]
theorem six_row {w : World} {g : Nat} {t : TypeId} {a b c d e f : Value} (h : w.heap[g]? = some (.cells #[a, b, c, d, e, f] t (0, 0))) (a' b' c' d' e' f' : Value) :
  ((((((w.setCell ⟨g, 0, none⟩ a').setCell ⟨g, 1, none⟩ b').setCell ⟨g, 2, none⟩ c').setCell ⟨g, 3, none⟩ d').setCell ⟨g, 4, none⟩ e').setCell ⟨g, 5, none⟩ f').heap[g]? = some (.cells #[a', b', c', d', e', f'] t (0, 0)) := by
 simp [World.setCell, Array.getElem?_modify, h]
theorem six_below {B : Nat} {w w' : World} (h : Below B w w') (a b c d e f : Value) :
  Below B w ((((((w'.setCell ⟨B, 0, none⟩ a).setCell ⟨B, 1, none⟩ b).setCell ⟨B, 2, none⟩ c).setCell ⟨B, 3, none⟩ d).setCell ⟨B, 4, none⟩ e).setCell ⟨B, 5, none⟩ f) :=
 (((((h.setCell (p := ⟨B, 0, none⟩) (Nat.le_refl _) _).setCell (p := ⟨B, 1, none⟩) (Nat.le_refl _) _).setCell (p := ⟨B, 2, none⟩) (Nat.le_refl _) _).setCell (p := ⟨B, 3, none⟩) (Nat.le_refl _) _).setCell (p := ⟨B, 4, none⟩) (Nat.le_refl _) _).setCell (p := ⟨B, 5, none⟩) (Nat.le_refl _) _

theorem M7 {p : Prop} (h : p := by
 refine wp_region_noPanic ?_
 refine wp_region_held_drew (S := (fun W' => W'.cell? ⟨w.heap.size, 1, none⟩ = some (.int .u64 id) ∧ W'.cell? ⟨w.heap.size, 2, none⟩ = some (.int .i64 n) ∧ W'.cell? ⟨w.heap.size, 3, none⟩ = some (.int .u64 at') ∧ W'.cell? ⟨w.heap.size, 4, none⟩ = some (.string name) ∧ W'.cell? ⟨w.heap.size, 5, none⟩ = some (.string text) ∧ W'.cell? ⟨w.heap.size, 6, none⟩ = some (.int .i64 vk) ∧ W'.cell? ⟨w.heap.size, 7, none⟩ = some (.int .i64 vn) ∧ W'.cell? ⟨w.heap.size, 8, none⟩ = some (.float .f64 vf) ∧ W'.cell? ⟨w.heap.size, 9, none⟩ = some (.string vs) ∧ W'.cell? ⟨w.heap.size, 10, none⟩ = some (.slice A m c))) (by kernel_rfl) ?_ (fun hHeld => ?_)
 ·exact KD.out
 refine tk 0 rfl ?_
 try simp only [ap]
 refine tk 1 rfl ?_
 try simp only [ap]
 refine tk 2 rfl ?_
 try simp only [ap]
 refine tk 3 rfl ?_
 try simp only [ap]
 refine tk 4 rfl ?_
 try simp only [ap]
 refine tk 5 rfl ?_
 try simp only [ap]
 refine tk 6 rfl ?_
 try simp only [ap]
 refine tk 7 rfl ?_
 try simp only [ap]
 refine tk 8 rfl ?_
 try simp only [ap]
 refine tk 9 rfl ?_
 try simp only [ap]
 refine tk 10 rfl ?_
 try simp only [ap]
 refine tk 11 rfl ?_
 try simp only [ap]
 refine tk 12 rfl ?_
 try simp only [ap]
 refine tk 13 rfl ?_
 try simp only [ap]
 refine tk 14 rfl ?_
 try simp only [ap]
 refine tk 15 rfl ?_
 try simp only [ap]
 refine tk 16 rfl ?_
 try simp only [ap]
 refine tk 17 rfl ?_
 try simp only [ap]
 refine tk 18 rfl ?_
 try simp only [ap]
 refine tk 19 rfl ?_
 try simp only [ap]
 refine tk 20 rfl ?_
 try simp only [ap]
 refine tk 21 rfl ?_
 try simp only [ap]
 refine tk 22 rfl ?_
 try simp only [ap]
 refine tk 23 rfl ?_
 try simp only [ap]
 refine tk 24 rfl ?_
 try simp only [ap]
 refine tk 25 rfl ?_
 try simp only [ap]
 refine tk 26 rfl ?_
 try simp only [ap]
 refine tk 27 rfl ?_
 try simp only [ap]
 refine tk 28 rfl ?_
 try simp only [ap]
 refine wpAnyH_ready (rs := [29, 31]) (by kernel_rfl) (by simp) ?_
 refine cons_drop rfl (fun K hK => ?_) ?_
 ·go_simp
  (with_reducible refine H9a.out.mono ?_)
  rintro e w7 ⟨rfl, hb9⟩
  have hq5 : Below wz.heap.size wz w7 := Below.trans (below_drew (Below.refl _ _)) hb9
  have hz5 := hq5.size
  clear hb9
  go_wp2_with fail
  refine hK.out _ _ (KS.out _ hq5) (fun hHeld2 => ?_)
  clear hK K hHeld
  try simp only [ap]
  refine tk 30 rfl ?_
  try simp only [ap]
  refine rd1 31 rfl fun K hK => ?_
  go_simp
  refine hK.out _ _ (KS.out _ (Below.alloc hq5 hz5 _)) (fun hHeld3 => ?_)
  clear hK K hHeld2
  try simp only [ap]
  refine rd1 32 rfl fun K hK => ?_
  go_simp
  refine hK.out _ _ (KS.out _ (Below.alloc hq5 hz5 _)) (fun hHeld4 => ?_)
  clear hK K hHeld3
  try simp only [ap]
  refine wpAnyH_done (by kernel_rfl) ?_ _
  refine NoPanic.normal ?_
  go_wp2_with fail
  go_meet
  case rel => exact ⟨_, rfl, (heap_alloc_new w7 _).trans (by simp [*]; first | done | omega), hz5, hq5.alloc hz5 _⟩
 ·refine cons_drop rfl (fun K hK => ?_) AllReadyH.nil
  go_simp
  refine hK.out _ _ KA.out (fun hHeld2 => ?_)
  clear hK K hHeld
  try simp only [ap]
  refine rd1 29 rfl fun K hK => ?_
  go_simp
  (with_reducible refine H9b.out.mono ?_)
  rintro e w7 ⟨rfl, hb9⟩
  obtain ⟨hq5, hrow9, hlt9⟩ := KB.out w7 hb9
  have hz5 := hq5.size
  obtain ⟨x0, x1, x2, x3, x4, x5, y0, y1, y2, y3, y4, y5⟩ := six_cells hrow9
  have HROW9 := Lib.hid hrow9
  clear hrow9 hb9
  go_wp2_with fail
  refine hK.out _ _ (KS.out _ hq5) (fun hHeld3 => ?_)
  clear hK K hHeld2
  try simp only [ap]
  refine tk 30 rfl ?_
  try simp only [ap]
  refine rd1 32 rfl fun K hK => ?_
  go_simp
  refine hK.out _ _ (KS.out _ (six_below hq5 _ _ _ _ _ _)) (fun hHeld4 => ?_)
  clear hK K hHeld3
  try simp only [ap]
  refine wpAnyH_done (by kernel_rfl) ?_ _
  refine NoPanic.normal ?_
  go_wp2_with fail
  go_meet
  case rel => exact ⟨_, rfl, (six_row HROW9.out _ _ _ _ _ _).trans (by simp [*]; first | done | omega), Nat.le_refl _, six_below hq5 _ _ _ _ _ _⟩) : p := h
theorem M49 {p : Prop} (h : p := by
 go_wp2_with fail
 go_ret
 exact ⟨ret_bool (by rw [HRR.out]; simp [pickB]), HBW.out⟩) : p := h
theorem M121 {p : Prop} (h : p := by
 exact ⟨(e1 _).trans q1, (e1 _).trans q2, (e1 _).trans q3, (e1 _).trans q4, (e1 _).trans q5, (e1 _).trans q6, (e1 _).trans q7, (e1 _).trans q8, (e1 _).trans q9, (e1 _).trans q10⟩) : p := h
theorem M129 {p : Prop} (h : p := by
 go_wp2_with fail
 go_round
 case rel => exact ⟨6, by omega, by omega, rfl, rfl, by have := HY.out; simp [pickB] at this ⊢; try exact this⟩
 case measure => simp [intOf]) : p := h
theorem M136 {p : Prop} (h : p := by
 go_wp2_with fail
 go_round
 case rel => exact ⟨5, by omega, by omega, rfl, rfl, by have := HY.out; simp [pickB] at this ⊢; try exact this⟩
 case measure => simp [intOf]) : p := h
theorem M139 {p : Prop} (h : p := by
 go_wp2_with fail
 go_round
 case rel => exact ⟨4, by omega, by omega, rfl, rfl, by have := HY.out; simp [pickB] at this ⊢; try exact this⟩
 case measure => simp [intOf]) : p := h
theorem M140 {p : Prop} (h : p := by
 go_wp2_with fail
 go_round
 case rel => exact ⟨3, by omega, by omega, rfl, rfl, by have := HY.out; simp [pickB] at this ⊢; try exact this⟩
 case measure => simp [intOf]) : p := h
theorem M141 {p : Prop} (h : p := by
 go_wp2_with fail
 go_round
 case rel => exact ⟨2, by omega, by omega, rfl, rfl, by have := HY.out; simp [pickB] at this ⊢; try exact this⟩
 case measure => simp [intOf]) : p := h
theorem M142 {p : Prop} (h : p := by
 go_wp2_with fail
 go_round
 case rel => exact ⟨1, by omega, by omega, rfl, rfl, by have := HY.out; simp [pickB] at this ⊢; try exact this⟩
 case measure => simp [intOf]) : p := h
set_option maxRecDepth 100000 in
set_option maxHeartbeats 4000000 in
theorem evalid_walk (e : EV) (hf : FieldsOk e) (vk vn : Int) (vf : Nat) (vs : ByteArray) (A : Option Addr) (m c : Nat) (nm : ByteArray) (b0 b1 b2 b3 b4 b5 ok RR : Bool) (hRR : RR = (ok && (goodL e b0 b1 b2 b3 b4 b5).all (fun b : Bool => b)))
  (w : World) (lo hi : Nat) (hR : Rep w lo hi e.v (vCells vk vn vf vs A m c)) (hz : hi ≤ w.heap.size)
  (ho : ∀ w, Calls Tryz.prog 100 #[.int .i64 e.k] w fun x w' => x = .returned (.tuple #[.agg #[.string nm, .bool b0, .bool b1, .bool b2, .bool b3, .bool b4, .bool b5], .bool ok]) ∧ Below w.heap.size w w') :
  Calls Tryz.prog 73 #[.agg (evCells e vk vn vf vs A m c)] w fun x w' => x = .returned (.bool RR) ∧ Below w.heap.size w w' := by
 have O := Lib.hid ho; clear ho
 obtain ⟨k0, k1, i1, n0, n1, a1, s1, t1⟩ := hf
 unfold evCells
 unfold goodL at hRR
 have HRR := Lib.hid hRR; clear hRR
 generalize e.k = k at *
 generalize e.id = id at *
 generalize e.n = n at *
 generalize e.at' = at' at *
 generalize e.name = name at *
 generalize e.text = text at *
 generalize e.v = t at *
 unfold maxLen at s1 t1
 unfold vCells at hR
 have HR := Lib.hid hR; clear hR
 have HBX : Hid (EBox (w.alloc (.cells #[.int .i64 k, .int .u64 id, .int .i64 n, .int .u64 at', .string name, .string text, .int .i64 vk, .int .i64 vn, .float .f64 vf, .string vs, .slice A m c] 71)) w.heap.size #[.int .i64 k, .int .u64 id, .int .i64 n, .int .u64 at', .string name, .string text, .int .i64 vk, .int .i64 vn, .float .f64 vf, .string vs, .slice A m c]) := Lib.hid (heap_alloc_new w _)
 have HB0 := Lib.hid ((Below.refl w.heap.size w).alloc (Nat.le_refl _) (.cells #[.int .i64 k, .int .u64 id, .int .i64 n, .int .u64 at', .string name, .string text, .int .i64 vk, .int .i64 vn, .float .f64 vf, .string vs, .slice A m c] 71))
 go_enter Tryz.func73, Tryz.ntmps73
 go_wp2_with fail
 refine (O.out _).mono ?_
 rintro x w1 ⟨rfl, hb1⟩
 have hbx := HBX.out.later hb1 (by simp)
 have HB1 := Lib.hid (HB0.out.trans (hb1.mono (by simp)))
 have hz1 := hbx.lt
 clear hb1 HBX HB0
 obtain ⟨c0, c1, c2, c3, c4, c5, c6, c7, c8, c9, c10⟩ := hbx.cells
 have HBX := Lib.hid hbx; clear hbx
 go_wp2_with fail
 have hqr : (w1.alloc (.cells #[.string nm, .bool b0, .bool b1, .bool b2, .bool b3, .bool b4, .bool b5] 161)).heap[w1.heap.size]? = _ := heap_alloc_new w1 _
 have HBQ := Lib.hid ((Below.refl w1.heap.size w1).alloc (Nat.le_refl _) (.cells #[.string nm, .bool b0, .bool b1, .bool b2, .bool b3, .bool b4, .bool b5] 161))
 have hqz : w1.heap.size < (w1.alloc (.cells #[.string nm, .bool b0, .bool b1, .bool b2, .bool b3, .bool b4, .bool b5] 161)).heap.size := by simp
 generalize w1.alloc (.cells #[.string nm, .bool b0, .bool b1, .bool b2, .bool b3, .bool b4, .bool b5] 161) = wq at *
 have HQR := Lib.hid hqr; clear hqr
 have hq0 : w.heap.size < wq.heap.size := by omega
 have hbxq := HBX.out.later HBQ.out hz1
 clear c0 c1 c2 c3 c4 c5 c6 c7 c8 c9 c10 HBX
 obtain ⟨q0, q1, q2, q3, q4, q5, q6, q7, q8, q9, q10⟩ := hbxq.cells
 have HBX := Lib.hid hbxq; clear hbxq
 have HRQ : Hid (∀ W', Below wq.heap.size wq W' → Rep W' lo hi t (.agg #[.int .i64 vk, .int .i64 vn, .float .f64 vf, .string vs, .slice A m c])) := Lib.hid fun W' hb =>
  ((HR.out.later (HB1.out.mono hz)).later (HBQ.out.mono (by omega))).later (hb.mono (by omega))
 have H9 : Hid (∀ W', Below wq.heap.size wq W' → Calls Tryz.prog 111 #[.agg #[.int .i64 vk, .int .i64 vn, .float .f64 vf, .string vs, .slice A m c], .agg #[.int .i64 0, .int .i64 0, .float .f64 0, .string ⟨#[]⟩, .slice none 0 0]] W' fun e w' => e = .returned (.bool (t.same zeroT)) ∧ Below W'.heap.size W' w') := Lib.hid fun W' hb =>
  Vt.same_any t zeroT W' lo hi 0 0 _ _ (HRQ.out W' hb) (by have := hb.size; omega) (Rep.leaf ⟨by omega, by omega, by omega, by omega, by omega, by decide, by decide⟩) (Nat.zero_le _)
 have H9a := Lib.hid (H9.out wq.drew (below_drew (Below.refl _ _)))
 have H9b := Lib.hid (H9.out (wq.alloc (.cells #[.bool false, .bool false, .bool false, .bool false, .bool false, .bool false] 159)).drew (below_drew ((Below.refl _ _).alloc (Nat.le_refl _) _)))
 have KB : Hid (∀ w5, Below (wq.alloc (.cells #[.bool false, .bool false, .bool false, .bool false, .bool false, .bool false] 159)).drew.heap.size (wq.alloc (.cells #[.bool false, .bool false, .bool false, .bool false, .bool false, .bool false] 159)).drew w5 →
   Below wq.heap.size wq w5 ∧ w5.heap[wq.heap.size]? = some (.cells #[.bool false, .bool false, .bool false, .bool false, .bool false, .bool false] 159 (0, 0)) ∧ wq.heap.size < w5.heap.size) := Lib.hid fun w5 hb => by
  have hb' : Below (wq.heap.size + 1) (wq.alloc (.cells #[.bool false, .bool false, .bool false, .bool false, .bool false, .bool false] 159)).drew w5 := hb.mono (by show wq.heap.size + 1 ≤ (wq.alloc _).heap.size; rw [World.size_alloc]; exact Nat.le_refl _)
  have h0 : (wq.alloc (.cells #[.bool false, .bool false, .bool false, .bool false, .bool false, .bool false] 159)).drew.heap[wq.heap.size]? = some (.cells #[.bool false, .bool false, .bool false, .bool false, .bool false, .bool false] 159 (0, 0)) := heap_alloc_new wq _
  have h1 := (hb'.block wq.heap.size (Nat.lt_succ_self _)).trans h0
  exact ⟨(below_drew ((Below.refl _ _).alloc (Nat.le_refl _) _)).trans (hb'.mono (Nat.le_succ _)), h1, (Array.getElem?_eq_some_iff.1 h1).1⟩
 have KS : Hid (∀ W', Below wq.heap.size wq W' → W'.cell? ⟨w.heap.size, 1, none⟩ = some (.int .u64 id) ∧ W'.cell? ⟨w.heap.size, 2, none⟩ = some (.int .i64 n) ∧ W'.cell? ⟨w.heap.size, 3, none⟩ = some (.int .u64 at') ∧ W'.cell? ⟨w.heap.size, 4, none⟩ = some (.string name) ∧ W'.cell? ⟨w.heap.size, 5, none⟩ = some (.string text) ∧ W'.cell? ⟨w.heap.size, 6, none⟩ = some (.int .i64 vk) ∧ W'.cell? ⟨w.heap.size, 7, none⟩ = some (.int .i64 vn) ∧ W'.cell? ⟨w.heap.size, 8, none⟩ = some (.float .f64 vf) ∧ W'.cell? ⟨w.heap.size, 9, none⟩ = some (.string vs) ∧ W'.cell? ⟨w.heap.size, 10, none⟩ = some (.slice A m c)) := Lib.hid fun W' hb => by
  have e1 : ∀ o, W'.cell? ⟨w.heap.size, o, none⟩ = wq.cell? ⟨w.heap.size, o, none⟩ := fun o => hb.cell (p := ⟨w.heap.size, o, none⟩) hq0
  exact M121
 have KD := Lib.hid (KS.out wq.drew (below_drew (Below.refl _ _)))
 have KA := Lib.hid (KS.out (wq.alloc (.cells #[.bool false, .bool false, .bool false, .bool false, .bool false, .bool false] 159)).drew (below_drew ((Below.refl _ _).alloc (Nat.le_refl _) _)))
 clear q0 q1 q2 q3 q4 q5 q6 q7 q8 q9 q10
 go_cut [5] from 15 to 34 (fun z wx => ∃ bz, z = .pointer (some ⟨bz, 0, none⟩) ∧ wx.heap[bz]? = some (.cells #[.bool ((id : Int) == 0), .bool (n == 0), .bool ((at' : Int) == 0), .bool name.toList.isEmpty, .bool text.toList.isEmpty, .bool (t.same zeroT)] 159 (0, 0)) ∧ wq.heap.size ≤ bz ∧ Below wq.heap.size wq wx)
 case first =>
  go_region_held3 (fun W' => W'.cell? ⟨w.heap.size, 1, none⟩ = some (.int .u64 id) ∧ W'.cell? ⟨w.heap.size, 2, none⟩ = some (.int .i64 n) ∧ W'.cell? ⟨w.heap.size, 3, none⟩ = some (.int .u64 at') ∧ W'.cell? ⟨w.heap.size, 4, none⟩ = some (.string name) ∧ W'.cell? ⟨w.heap.size, 5, none⟩ = some (.string text) ∧ W'.cell? ⟨w.heap.size, 6, none⟩ = some (.int .i64 vk) ∧ W'.cell? ⟨w.heap.size, 7, none⟩ = some (.int .i64 vn) ∧ W'.cell? ⟨w.heap.size, 8, none⟩ = some (.float .f64 vf) ∧ W'.cell? ⟨w.heap.size, 9, none⟩ = some (.string vs) ∧ W'.cell? ⟨w.heap.size, 10, none⟩ = some (.slice A m c))
   (first
    | (with_reducible exact KS.out _ hq5)
    | (with_reducible exact KS.out _ (six_below hq5 _ _ _ _ _ _))
    | (with_reducible exact KS.out _ (Below.alloc hq5 hz5 _))
    | (with_reducible exact KD.out)
    | (with_reducible exact KA.out))
   (first
    | (go_at_call 111; (with_reducible refine H9a.out.mono ?_); rintro e w5 ⟨rfl, hb9⟩; have hq5 : Below wq.heap.size wq w5 := Below.trans (below_drew (Below.refl _ _)) hb9; have hz5 := hq5.size; clear hb9)
    | (go_at_call 111; (with_reducible refine H9b.out.mono ?_); rintro e w5 ⟨rfl, hb9⟩; obtain ⟨hq5, hrow9, hlt9⟩ := KB.out w5 hb9; have hz5 := hq5.size; obtain ⟨x0, x1, x2, x3, x4, x5, y0, y1, y2, y3, y4, y5⟩ := six_cells hrow9; have HROW9 := Lib.hid hrow9; clear hrow9 hb9))
  all_goals
   go_wp2_with fail
   go_meet
   case rel =>
    first
     | exact ⟨_, rfl, six_row HROW9.out _ _ _ _ _ _, Nat.le_refl _, six_below hq5 _ _ _ _ _ _⟩
     | exact ⟨_, rfl, heap_alloc_new w5 _, hz5, hq5.alloc hz5 _⟩
 case rest =>
  obtain ⟨bz, rfl, hzrow, hbz, hbx⟩ := hcut
  clear H9 H9a H9b KB KD KA KS
  go_wp2_with fail
  obtain ⟨wz, hwz⟩ : ∃ wz, wz = wc := ⟨_, rfl⟩
  subst hwz
  have hwz0 : w.heap.size < wz.heap.size := by have := hbx.size; omega
  have hbxc := HBX.out.later hbx hq0
  obtain ⟨q0, q1, q2, q3, q4, q5, q6, q7, q8, q9, q10⟩ := hbxc.cells
  have HBXC := Lib.hid hbxc
  have HRC : Hid (∀ W', Below wz.heap.size wz W' → Rep W' lo hi t (.agg #[.int .i64 vk, .int .i64 vn, .float .f64 vf, .string vs, .slice A m c])) := Lib.hid fun W' hb =>
   HRQ.out W' (hbx.trans (hb.mono hbx.size))
  have hbzc : bz < wz.heap.size := (Array.getElem?_eq_some_iff.1 hzrow).1
  have HZROW := Lib.hid hzrow; have HBXX := Lib.hid hbx
  clear hbxc hzrow hbx
  have H9 : Hid (∀ W', Below wz.heap.size wz W' → Calls Tryz.prog 112 #[.agg #[.int .i64 vk, .int .i64 vn, .float .f64 vf, .string vs, .slice A m c]] W' fun e w' => e = .returned (.bool (t.valid 8)) ∧ Below W'.heap.size W' w') := Lib.hid fun W' hb =>
   Vt.valid_any t W' lo hi _ (HRC.out W' hb) (by have := hb.size; omega)
  have H9a := Lib.hid (H9.out wz.drew (below_drew (Below.refl _ _)))
  have H9b := Lib.hid (H9.out (wz.alloc (.cells #[.bool false, .bool false, .bool false, .bool false, .bool false, .bool false] 159)).drew (below_drew ((Below.refl _ _).alloc (Nat.le_refl _) _)))
  have KB : Hid (∀ w7, Below (wz.alloc (.cells #[.bool false, .bool false, .bool false, .bool false, .bool false, .bool false] 159)).drew.heap.size (wz.alloc (.cells #[.bool false, .bool false, .bool false, .bool false, .bool false, .bool false] 159)).drew w7 →
    Below wz.heap.size wz w7 ∧ w7.heap[wz.heap.size]? = some (.cells #[.bool false, .bool false, .bool false, .bool false, .bool false, .bool false] 159 (0, 0)) ∧ wz.heap.size < w7.heap.size) := Lib.hid fun w7 hb => by
   have hb' : Below (wz.heap.size + 1) (wz.alloc (.cells #[.bool false, .bool false, .bool false, .bool false, .bool false, .bool false] 159)).drew w7 := hb.mono (by show wz.heap.size + 1 ≤ (wz.alloc _).heap.size; rw [World.size_alloc]; exact Nat.le_refl _)
   have h0 : (wz.alloc (.cells #[.bool false, .bool false, .bool false, .bool false, .bool false, .bool false] 159)).drew.heap[wz.heap.size]? = some (.cells #[.bool false, .bool false, .bool false, .bool false, .bool false, .bool false] 159 (0, 0)) := heap_alloc_new wz _
   have h1 := (hb'.block wz.heap.size (Nat.lt_succ_self _)).trans h0
   exact ⟨(below_drew ((Below.refl _ _).alloc (Nat.le_refl _) _)).trans (hb'.mono (Nat.le_succ _)), h1, (Array.getElem?_eq_some_iff.1 h1).1⟩
  have KS : Hid (∀ W', Below wz.heap.size wz W' → W'.cell? ⟨w.heap.size, 1, none⟩ = some (.int .u64 id) ∧ W'.cell? ⟨w.heap.size, 2, none⟩ = some (.int .i64 n) ∧ W'.cell? ⟨w.heap.size, 3, none⟩ = some (.int .u64 at') ∧ W'.cell? ⟨w.heap.size, 4, none⟩ = some (.string name) ∧ W'.cell? ⟨w.heap.size, 5, none⟩ = some (.string text) ∧ W'.cell? ⟨w.heap.size, 6, none⟩ = some (.int .i64 vk) ∧ W'.cell? ⟨w.heap.size, 7, none⟩ = some (.int .i64 vn) ∧ W'.cell? ⟨w.heap.size, 8, none⟩ = some (.float .f64 vf) ∧ W'.cell? ⟨w.heap.size, 9, none⟩ = some (.string vs) ∧ W'.cell? ⟨w.heap.size, 10, none⟩ = some (.slice A m c)) := Lib.hid fun W' hb => by
   have e1 : ∀ o, W'.cell? ⟨w.heap.size, o, none⟩ = wz.cell? ⟨w.heap.size, o, none⟩ := fun o => hb.cell (p := ⟨w.heap.size, o, none⟩) hwz0
   exact M121
  have KD := Lib.hid (KS.out wz.drew (below_drew (Below.refl _ _)))
  have KA := Lib.hid (KS.out (wz.alloc (.cells #[.bool false, .bool false, .bool false, .bool false, .bool false, .bool false] 159)).drew (below_drew ((Below.refl _ _).alloc (Nat.le_refl _) _)))
  clear q0 q1 q2 q3 q4 q5 q6 q7 q8 q9 q10
  go_cut [6] from 35 to 65 (fun z wx => ∃ by', z = .pointer (some ⟨by', 0, none⟩) ∧ wx.heap[by']? = some (.cells #[.bool (decide (0 < id)), .bool (decide (1 ≤ n ∧ n ≤ 2147483647)), .bool (decide (at' ≤ 9223372036854775807)), .bool (!name.toList.isEmpty && decide (name.size ≤ 1000)), .bool (decide (text.size ≤ 1000)), .bool (t.valid 8)] 159 (0, 0)) ∧ wz.heap.size ≤ by' ∧ Below wz.heap.size wz wx)
  case first =>
   by_cases hn : 1 ≤ n
   ·have hnb : decide (1 ≤ n) = true := by simpa using hn
    by_cases hnm : name.toList = []
    ·have tok := trivial
     exact M7
    ·have hnm2 : name.toList.isEmpty = false := by simpa using hnm
     exact M7
   ·have hnb : decide (1 ≤ n) = false := by simpa using hn
    by_cases hnm : name.toList = []
    ·have tok := trivial
     exact M7
    ·have hnm2 : name.toList.isEmpty = false := by simpa using hnm
     exact M7
  case rest =>
   obtain ⟨by', rfl, hfrow, hby, hbx⟩ := hcut
   clear H9 H9a H9b KB KD KA KS HRC HRQ HR HBXC HBX O
   have hrowc : wc.heap[w1.heap.size]? = _ := ((HBXX.out.trans (hbx.mono HBXX.out.size)).block w1.heap.size hqz).trans HQR.out
   have hzrowc := (hbx.block bz hbzc).trans HZROW.out
   have hbw : Below w.heap.size w wc := (HB1.out.trans (HBQ.out.mono (by omega))).trans ((HBXX.out.trans (hbx.mono HBXX.out.size)).mono (by omega))
   have HBW := Lib.hid hbw
   clear hbw hbx HBXX HZROW HQR HBQ HB1
   generalize decide (0 < id) = f0 at *
   generalize decide (1 ≤ n ∧ n ≤ 2147483647) = f1 at *
   generalize decide (at' ≤ 9223372036854775807) = f2 at *
   generalize (!name.toList.isEmpty && decide (name.size ≤ 1000)) = f3 at *
   generalize decide (text.size ≤ 1000) = f4 at *
   generalize t.valid 8 = f5 at *
   generalize ((id : Int) == 0) = z0 at *
   generalize (n == 0) = z1 at *
   generalize ((at' : Int) == 0) = z2 at *
   generalize name.toList.isEmpty = z3 at *
   generalize text.toList.isEmpty = z4 at *
   generalize t.same zeroT = z5 at *
   obtain ⟨a0, a1, a2, a3, a4, a5, -⟩ := six_cells hzrowc
   obtain ⟨g0, g1, g2, g3, g4, g5, -⟩ := six_cells hfrow
   obtain ⟨r0, r1, r2, r3, r4, r5, r6⟩ := RowAt.cells (show RowAt wc w1.heap.size _ from hrowc)
   clear hzrowc hfrow hrowc
   go_wp2_with fail
   go_loop [2, 68] (fun r i => ∃ j : Int, 0 ≤ j ∧ j ≤ 6 ∧ i = .int .i64 j ∧ r = .bool false ∧ ([pickB b0 f0 z0, pickB b1 f1 z1, pickB b2 f2 z2, pickB b3 f3 z3, pickB b4 f4 z4, pickB b5 f5 z5].take j.toNat).all (fun b : Bool => b) = true) (fun _ i => 6 - (intOf i).toNat)
   case atStart => exact ⟨0, by omega, by omega, rfl, rfl, rfl⟩
   case round =>
    obtain ⟨j, hj0, hj, rfl, rfl, hy⟩ := hrel
    have HY := Lib.hid hy; clear hy
    rcases (by omega : j = 0 ∨ j = 1 ∨ j = 2 ∨ j = 3 ∨ j = 4 ∨ j = 5 ∨ j = 6) with rfl | rfl | rfl | rfl | rfl | rfl | rfl
    ·have hix := ix0 (.bool b0) (.bool b1) (.bool b2) (.bool b3) (.bool b4) (.bool b5)
     cases b0
     ·cases z0
      ·exact M49
      ·exact M142
     ·cases f0
      ·exact M49
      ·exact M142
    ·have hix := ix1 (.bool b0) (.bool b1) (.bool b2) (.bool b3) (.bool b4) (.bool b5)
     cases b1
     ·cases z1
      ·exact M49
      ·exact M141
     ·cases f1
      ·exact M49
      ·exact M141
    ·have hix := ix2 (.bool b0) (.bool b1) (.bool b2) (.bool b3) (.bool b4) (.bool b5)
     cases b2
     ·cases z2
      ·exact M49
      ·exact M140
     ·cases f2
      ·exact M49
      ·exact M140
    ·have hix := ix3 (.bool b0) (.bool b1) (.bool b2) (.bool b3) (.bool b4) (.bool b5)
     cases b3
     ·cases z3
      ·exact M49
      ·exact M139
     ·cases f3
      ·exact M49
      ·exact M139
    ·have hix := ix4 (.bool b0) (.bool b1) (.bool b2) (.bool b3) (.bool b4) (.bool b5)
     cases b4
     ·cases z4
      ·exact M49
      ·exact M136
     ·cases f4
      ·exact M49
      ·exact M136
    ·have hix := ix5 (.bool b0) (.bool b1) (.bool b2) (.bool b3) (.bool b4) (.bool b5)
     cases b5
     ·cases z5
      ·exact M49
      ·exact M129
     ·cases f5
      ·exact M49
      ·exact M129
    ·go_wp2_with fail
     go_ret
     exact ⟨ret_bool (by have := HY.out; rw [HRR.out]; rw [show ([pickB b0 f0 z0, pickB b1 f1 z1, pickB b2 f2 z2, pickB b3 f3 z3, pickB b4 f4 z4, pickB b5 f5 z5].take (6 : Int).toNat) = [pickB b0 f0 z0, pickB b1 f1 z1, pickB b2 f2 z2, pickB b3 f3 z3, pickB b4 f4 z4, pickB b5 f5 z5] from rfl] at this; rw [this]; simp), HBW.out⟩

def EV.valid (e : EV) : Bool := decide (1 ≤ e.k ∧ e.k ≤ 11) && (goodL e ((fieldsOf e.k.toNat).contains 0) ((fieldsOf e.k.toNat).contains 1) ((fieldsOf e.k.toNat).contains 2) ((fieldsOf e.k.toNat).contains 3) ((fieldsOf e.k.toNat).contains 4) ((fieldsOf e.k.toNat).contains 5)).all (fun b : Bool => b)

theorem evalid_any (e : EV) (w : World) (lo hi : Nat) (x : Value) (hR : ERep w lo hi e x) (hz : hi ≤ w.heap.size) :
  Calls Tryz.prog 73 #[x] w fun r w' => r = .returned (.bool e.valid) ∧ Below w.heap.size w w' := by
 obtain ⟨hf, vk, vn, vf, vs, A, m, c, rfl, hv⟩ := hR
 by_cases hk : 1 ≤ e.k ∧ e.k ≤ 11
 ·obtain ⟨k, hkk⟩ : ∃ k : Nat, e.k = k := ⟨e.k.toNat, by omega⟩
  have := evalid_walk e hf vk vn vf vs A m c (nameOf k) ((fieldsOf k).contains 0) ((fieldsOf k).contains 1) ((fieldsOf k).contains 2) ((fieldsOf k).contains 3) ((fieldsOf k).contains 4) ((fieldsOf k).contains 5) true _ rfl w lo hi hv hz
   (fun w => by rw [hkk]; exact of_in k (by omega) (by omega) w)
  refine this.mono fun r w' h => ⟨?_, h.2⟩
  rw [h.1]
  unfold EV.valid
  rw [show e.k.toNat = k from by omega, show decide (1 ≤ e.k ∧ e.k ≤ 11) = true from by simpa using hk]
 ·have := evalid_walk e hf vk vn vf vs A m c ⟨#[]⟩ false false false false false false false _ rfl w lo hi hv hz (fun w => of_out e.k (by omega) w)
  refine this.mono fun r w' h => ⟨?_, h.2⟩
  rw [h.1]
  unfold EV.valid
  rw [show decide (1 ≤ e.k ∧ e.k ≤ 11) = false from by simpa using hk]
  rfl
end Ev
end Go.Proofs.YtfmnacebgplpcaaGreat
namespace Go.Proofs.YtfmnacebgplpcaaGreat
namespace Cm
variable {X : Nat → Prop}
open Nm (ret_int ret_bool)
open Vt (VT Rep BoxAt below_drew)
open Ev (EV FieldsOk evCells vCells EBox)

theorem Tryz.infoE : (Tryz.prog.info? 71).map (fun i => (i.zero, i.size, i.bytes)) = some (some (.agg #[.int .i64 0, .int .u64 0, .int .i64 0, .int .u64 0, .string ⟨#[]⟩, .string ⟨#[]⟩, .int .i64 0, .int .i64 0, .float .f64 0, .string ⟨#[]⟩, .slice none 0 0]), 11, 128) := by kernel_rfl

def EvCell (X : Nat → Prop) (w : World) (g : Nat) (ro : Option Nat) (xs : List Value) (i : Nat) (e : EV) : Prop := ∃ lo hi vk vn vf vs A m c, FieldsOk e ∧ Rep w lo hi e.v (vCells vk vn vf vs A m c) ∧ hi ≤ w.heap.size ∧ (g < lo ∨ hi ≤ g) ∧ (∀ r, ro = some r ∨ X r → r < lo ∨ hi ≤ r) ∧
 ∀ j, j < 11 → xs[i * 11 + j]? = (evCells e vk vn vf vs A m c)[j]?

def rowOf (A : Option Addr) : Option Nat := A.map (·.block)

theorem rowOf_own (A : Option Addr) (n c : Nat) : (Value.slice A n c).ownBlock = rowOf A := by cases A <;> rfl

def RowsAt (X : Nat → Prop) (w : World) (base g : Nat) (A : Option Addr) (cap : Nat) (es : List EV) : Prop := ∃ xs, w.ownsRow base 71 11 (.slice A es.length cap) es.length xs ∧ rowOf A ≠ some g ∧ ∀ i (h : i < es.length), EvCell X w g (rowOf A) xs i es[i]

structure OnlyAt (w w' : World) (g : Nat) (ro : Option Nat) : Prop where
 os : w'.os = w.os
 tape : w'.tape = w.tape
 output : w'.output = w.output
 size : w.heap.size ≤ w'.heap.size
 block : ∀ b, b < w.heap.size → b ≠ g → some b ≠ ro → w'.heap[b]? = w.heap[b]?

theorem OnlyAt.of_below {w w' : World} {g : Nat} {ro : Option Nat} (h : Below w.heap.size w w') : OnlyAt w w' g ro := ⟨h.os, h.tape, h.output, h.size, fun b hb _ _ => h.block b hb⟩
theorem OnlyAt.trans {w w' w'' : World} {g : Nat} {ro : Option Nat} (h : OnlyAt w w' g ro) (k : OnlyAt w' w'' g ro) : OnlyAt w w'' g ro :=
 ⟨k.os.trans h.os, k.tape.trans h.tape, k.output.trans h.output, Nat.le_trans h.size k.size, fun b hb h1 h2 => (k.block b (Nat.lt_of_lt_of_le hb h.size) h1 h2).trans (h.block b hb h1 h2)⟩
theorem OnlyAt.below {w w' : World} {g base : Nat} {ro : Option Nat} (h : OnlyAt w w' g ro) (hg : base ≤ g) (hr : ∀ r, ro = some r → base ≤ r) (hb : base ≤ w.heap.size) : Below base w w' :=
 ⟨h.os, h.tape, h.output, h.size, fun b hlt => h.block b (by omega) (by omega) (fun e => by have := hr b e.symm; omega)⟩
theorem OnlyAt.set {w w' : World} {g : Nat} {ro : Option Nat} (h : OnlyAt w w' g ro) (o : Nat) (v : Value) : OnlyAt w (w'.setCell ⟨g, o, none⟩ v) g ro :=
 ⟨h.os, h.tape, h.output, by simpa [World.setCell] using h.size, fun b hb h1 h2 => (Below.heap_setCell w' ⟨g, o, none⟩ v b (by simpa using h1)).trans (h.block b hb h1 h2)⟩
theorem EvCell.only {w w' : World} {g : Nat} {ro : Option Nat} {xs : List Value} {i : Nat} {e : EV} (h : EvCell X w g ro xs i e) (ho : OnlyAt w w' g ro) : EvCell X w' g ro xs i e := by
 obtain ⟨lo, hi, vk, vn, vf, vs, A, m, c, h1, h2, h3, h4, h5, h6⟩ := h
 refine ⟨lo, hi, vk, vn, vf, vs, A, m, c, h1, h2.keep fun b o hb1 hb2 => ?_, Nat.le_trans h3 ho.size, h4, h5, h6⟩
 exact World.cell?_of_block (a := ⟨b, o, none⟩) (ho.block b (by omega) (by omega) (fun e => by have := h5 b (.inl e.symm); omega))
theorem OnlyAt.any {w w' : World} {g : Nat} {ro : Option Nat} (h : OnlyAt w w' g none) : OnlyAt w w' g ro := ⟨h.os, h.tape, h.output, h.size, fun b hb h1 _ => h.block b hb h1 (by simp)⟩
theorem RowsAt.only {w w' : World} {base g : Nat} {A : Option Addr} {cap : Nat} {es : List EV} (h : RowsAt X w base g A cap es) (hb : OnlyAt w w' g none) : RowsAt X w' base g A cap es := by
 obtain ⟨xs, h1, h2, h3⟩ := h
 refine ⟨xs, ⟨h1.1, ?_⟩, h2, fun i hi => (h3 i hi).only hb.any⟩
 rcases h1.2 with h | ⟨r, cp, cur, q1, q2, q3, q4⟩
 ·exact .inl h
 ·refine .inr ⟨r, cp, cur, q1, q2, ?_, q4⟩
  injection q1 with q1
  subst q1
  exact (hb.block r (Array.getElem?_eq_some_iff.1 q3).1 (fun e => h2 (by rw [e]; rfl)) (by simp)).trans q3
theorem RowsAt.later {w w' : World} {base g : Nat} {A : Option Addr} {cap : Nat} {es : List EV} (h : RowsAt X w base g A cap es) (hb : Below w.heap.size w w') : RowsAt X w' base g A cap es := h.only (OnlyAt.of_below hb)
end Cm
end Go.Proofs.YtfmnacebgplpcaaGreat
namespace Go.Proofs.YtfmnacebgplpcaaGreat
namespace Cm
variable {X : Nat → Prop}
open Nm (ret_int ret_bool)
open Vt (VT Rep BoxAt below_drew)
open Ev (EV FieldsOk evCells vCells EBox)

end Cm
end Go.Proofs.YtfmnacebgplpcaaGreat
namespace Go.Proofs.YtfmnacebgplpcaaGreat
namespace Cm
variable {X : Nat → Prop}
open Nm (ret_int ret_bool)
open Vt (VT Rep BoxAt below_drew)
open Ev (EV FieldsOk evCells vCells EBox ERep)

section
variable {P : Program} {ops : Array Oper} {Q : Exit → Act → World → Prop} {md : Region.Mode}
end

def withId (e : EV) (n : Nat) : EV := { e with id := n }

end Cm
end Go.Proofs.YtfmnacebgplpcaaGreat
namespace Go.Proofs.YtfmnacebgplpcaaGreat
namespace Cm
variable {X : Nat → Prop}
open Nm (ret_int ret_bool)
open Vt (VT Rep BoxAt below_drew)
open Ev (EV FieldsOk evCells vCells EBox ERep)

end Cm
end Go.Proofs.YtfmnacebgplpcaaGreat
namespace Go.Proofs.YtfmnacebgplpcaaGreat
namespace Cm
variable {X : Nat → Prop}
open Nm (ret_int ret_bool)
open Vt (VT Rep BoxAt below_drew Cloned)
open Ev (EV FieldsOk evCells vCells EBox ERep zeroT)

structure BS where mk ::
 es : List EV
 closed : Int
 next : Nat
 at' : Nat

def BS.number (s : BS) (e : EV) : BS × Nat := if (withId e s.next).valid = true ∧ s.closed = 0 then (⟨s.es ++ [withId e s.next], 0, s.next + 1, s.at'⟩, s.next) else (s, 0)
def BS.fin (s : BS) (e : EV) : BS × Bool := if e.valid = true ∧ s.closed = 0 then (⟨s.es ++ [e], e.k, s.next, s.at'⟩, true) else (s, false)

end Cm
end Go.Proofs.YtfmnacebgplpcaaGreat
namespace Go.Proofs.YtfmnacebgplpcaaGreat
namespace Cm
variable {X : Nat → Prop}
open Nm (ret_int ret_bool)
open Vt (VT Rep BoxAt below_drew Cloned put5)
open Ev (EV FieldsOk evCells vCells EBox ERep zeroT)

def EvNew (w : World) (base : Nat) (ro : Option Nat) (xs : List Value) (i : Nat) (e : EV) : Prop := ∃ lo hi vk vn vf vs A m c, base ≤ lo ∧ FieldsOk e ∧ Rep w lo hi e.v (vCells vk vn vf vs A m c) ∧ hi ≤ w.heap.size ∧ (∀ r, ro = some r → r < lo ∨ hi ≤ r) ∧ (0 < e.v.l.length → ∀ b off, A = some ⟨b, off, none⟩ → ∀ o, w.frozen? ⟨b, o, none⟩ = false) ∧
 ∀ j, j < 11 → xs[i * 11 + j]? = (evCells e vk vn vf vs A m c)[j]?
def EvsAt (w : World) (base : Nat) (A : Option Addr) (cap n : Nat) (es : List EV) : Prop := es.length = n ∧ ∃ xs, w.ownsRow base 71 11 (.slice A n cap) n xs ∧ ∀ i (h : i < es.length), EvNew w base (rowOf A) xs i es[i]

theorem frozen_of_block {w w' : World} {b : Nat} (h : w'.heap[b]? = w.heap[b]?) (o : Nat) : w'.frozen? ⟨b, o, none⟩ = w.frozen? ⟨b, o, none⟩ := by simp [World.frozen?, h]

theorem rep_row {w : World} {lo hi : Nat} {t : VT} {vk vn : Int} {vf : Nat} {vs : ByteArray} {A : Option Addr} {m c : Nat} (h : Rep w lo hi t (vCells vk vn vf vs A m c)) : 0 < t.l.length → ∀ b off, A = some ⟨b, off, none⟩ → lo ≤ b ∧ b < hi := by
 intro hp b off hA
 obtain ⟨k, n, f, s, l, A', cap, rfl, hv, -, -, hk⟩ := h.open_
 injection hv with hv
 simp at hv
 obtain ⟨-, -, -, -, rfl, -, -⟩ := hv
 obtain ⟨b', off', hA', h1, h2, -⟩ := hk.at_ hp
 rw [hA] at hA'
 injection hA' with hA'
 injection hA' with hb _ _
 subst hb
 exact ⟨h1, h2⟩

theorem EvNew.keep {w w' : World} {base : Nat} {ro : Option Nat} {xs : List Value} {i : Nat} {e : EV} (h : EvNew w base ro xs i e) (hz : w.heap.size ≤ w'.heap.size) (ho : ∀ b, b < w.heap.size → some b ≠ ro → w'.heap[b]? = w.heap[b]?) : EvNew w' base ro xs i e := by
 obtain ⟨lo, hi, vk, vn, vf, vs, A, m, c, h0, h1, h2, h3, h5, hfr, h6⟩ := h
 have hin := rep_row h2
 refine ⟨lo, hi, vk, vn, vf, vs, A, m, c, h0, h1, h2.keep fun b o hb1 hb2 => ?_, Nat.le_trans h3 hz, h5, fun hp b off hA o => ?_, h6⟩
 ·exact World.cell?_of_block (a := ⟨b, o, none⟩) (ho b (by omega) (fun e => by have := h5 b e.symm; omega))
 ·obtain ⟨q1, q2⟩ := hin hp b off hA
  exact (frozen_of_block (ho b (by omega) (fun e => by have := h5 b e.symm; omega)) o).trans (hfr hp b off hA o)

theorem EvsAt.later {w w' : World} {base : Nat} {A : Option Addr} {cap n : Nat} {es : List EV} (h : EvsAt w base A cap n es) (hb : Below w.heap.size w w') : EvsAt w' base A cap n es := by
 obtain ⟨h0, xs, h1, h3⟩ := h
 refine ⟨h0, xs, ⟨h1.1, ?_⟩, fun i hi => (h3 i hi).keep hb.size (fun b hlt _ => hb.block b hlt)⟩
 rcases h1.2 with h | ⟨r, cp, cur, q1, q2, q3, q4⟩
 ·exact .inl h
 ·exact .inr ⟨r, cp, cur, q1, q2, (hb.block r (Array.getElem?_eq_some_iff.1 q3).1).trans q3, q4⟩

theorem ev_one (e : EV) (vk vn : Int) (vf : Nat) (vs : ByteArray) (A : Option Addr) (m c : Nat) : ∀ u ∈ (evCells e vk vn vf vs A m c).toList, u.oneCell' = true := by
 intro u hu
 simp [evCells] at hu
 rcases hu with rfl | rfl | rfl | rfl | rfl | rfl | rfl | rfl | rfl | rfl | rfl <;> rfl

end Cm
end Go.Proofs.YtfmnacebgplpcaaGreat
namespace Go.Proofs.YtfmnacebgplpcaaGreat
namespace Cn
open Nm (bitsW ret_int ret_bool)
open Vt (VT Rep BoxAt below_drew Cloned put5 KidsAt HeadOk)
open Ev (EV FieldsOk evCells vCells EBox ERep zeroT take_drop tk ap rd1 rd2 cons_drop)
open Cm (rowOf)

def VNew (w : World) (base : Nat) (ro : Option Nat) (xs : List Value) (i : Nat) (t : VT) : Prop := ∃ lo hi k n f s A m c, base ≤ lo ∧ hi ≤ w.heap.size ∧ Rep w lo hi t (.agg #[.int .i64 k, .int .i64 n, .float .f64 f, .string s, .slice A m c]) ∧ (∀ r, ro = some r → r < lo ∨ hi ≤ r) ∧
 ∀ j, j < 5 → xs[i * 5 + j]? = (#[Value.int .i64 k, .int .i64 n, .float .f64 f, .string s, .slice A m c])[j]?
def VsAt (w : World) (base : Nat) (A : Option Addr) (cap n : Nat) (ts : List VT) : Prop := ts.length = n ∧ ∃ xs, w.ownsRow base 69 5 (.slice A n cap) n xs ∧ ∀ i (h : i < ts.length), VNew w base (rowOf A) xs i ts[i]

theorem VNew.keep {w w' : World} {base : Nat} {ro : Option Nat} {xs : List Value} {i : Nat} {t : VT} (h : VNew w base ro xs i t) (hz : w.heap.size ≤ w'.heap.size) (ho : ∀ b, b < w.heap.size → some b ≠ ro → w'.heap[b]? = w.heap[b]?) : VNew w' base ro xs i t := by
 obtain ⟨lo, hi, k, n, f, s, A, m, c, h0, h1, h2, h3, h4⟩ := h
 refine ⟨lo, hi, k, n, f, s, A, m, c, h0, Nat.le_trans h1 hz, h2.keep fun b o hb1 hb2 => ?_, h3, h4⟩
 exact World.cell?_of_block (a := ⟨b, o, none⟩) (ho b (by omega) (fun e => by have := h3 b e.symm; omega))

theorem VsAt.setCell {w : World} {base : Nat} {A : Option Addr} {cap n : Nat} {ts : List VT} (h : VsAt w base A cap n ts) {p : Addr} (hp : p.block < base) (v : Value) : VsAt (w.setCell p v) base A cap n ts := by
 obtain ⟨h0, xs, h1, h3⟩ := h
 have hb : ∀ b, base ≤ b → (w.setCell p v).heap[b]? = w.heap[b]? := fun b hb => Below.heap_setCell _ _ _ b (by omega)
 refine ⟨h0, xs, ⟨h1.1, ?_⟩, fun i hi => ?_⟩
 ·rcases h1.2 with h | ⟨r, cp, cur, q1, q2, q3, q4⟩
  ·exact .inl h
  ·exact .inr ⟨r, cp, cur, q1, q2, (hb r q2).trans q3, q4⟩
 ·obtain ⟨lo, hi', k, n, f, s, A, m, c, h0, h1, h2, h3, h4⟩ := h3 i hi
  exact ⟨lo, hi', k, n, f, s, A, m, c, h0, by simpa [World.setCell] using h1, h2.setCell (.inl (by omega)) v, h3, h4⟩

theorem VsAt.lt {w : World} {base : Nat} {A : Option Addr} {cap n : Nat} {ts : List VT} (h : VsAt w base A cap n ts) : ∀ r, rowOf A = some r → r < w.heap.size ∧ base ≤ r := fun r hr => by
 obtain ⟨-, xs, h1, -⟩ := h
 rcases h1.2 with ⟨h2, -⟩ | ⟨r', cp, cur, q1, q0, q3, -⟩
 ·rw [← Cm.rowOf_own A n cap, h2] at hr; cases hr
 ·rw [← Cm.rowOf_own A n cap, q1] at hr
  obtain rfl : r' = r := Option.some.inj hr
  exact ⟨(Array.getElem?_eq_some_iff.1 q3).1, q0⟩

end Cn
end Go.Proofs.YtfmnacebgplpcaaGreat
namespace Go.Proofs.YtfmnacebgplpcaaGreat
namespace Cm
variable {X : Nat → Prop}
open Nm (ret_int ret_bool)
open Vt (VT Rep BoxAt below_drew Cloned put5)
open Ev (EV FieldsOk evCells vCells EBox ERep zeroT)

theorem evs_cells {w : World} {base : Nat} {A : Option Addr} {cap n : Nat} {es : List EV} (h : EvsAt w base A cap n es) (j : Nat) (hj : j < es.length) :
  ∃ r lo hi vk vn vf vs A' m c, A = some ⟨r, 0, none⟩ ∧ r < w.heap.size ∧ base ≤ r ∧ base ≤ lo ∧ (r < lo ∨ hi ≤ r) ∧ (0 < es[j].v.l.length → ∀ b off, A' = some ⟨b, off, none⟩ → ∀ o, w.frozen? ⟨b, o, none⟩ = false) ∧ FieldsOk es[j] ∧ Rep w lo hi es[j].v (vCells vk vn vf vs A' m c) ∧ hi ≤ w.heap.size ∧ n ≤ cap ∧ cap ≤ maxLen ∧ ∀ q, q < 11 → w.cell? ⟨r, j * 11 + q, none⟩ = (evCells es[j] vk vn vf vs A' m c)[q]? := by
 obtain ⟨h0, xs, h1, h3⟩ := h
 obtain ⟨lo, hi, vk, vn, vf, vs, A', m, c, p0, p1, p2, p3, p5, pf, p6⟩ := h3 j hj
 rcases h1.2 with ⟨-, h0'⟩ | ⟨r, cp, cur, q1, q2, q3, q4, q5, q6, q7⟩
 ·omega
 ·injection q1 with q1 _ q1'
  subst q1'
  refine ⟨r, lo, hi, vk, vn, vf, vs, A', m, c, q1, (Array.getElem?_eq_some_iff.1 q3).1, q2, p0, p5 r (by rw [q1]; rfl), pf, p1, p2, p3, q4, q5, fun q hq => ?_⟩
  rw [← p6 q hq, ← q7, List.getElem?_take_of_lt (by omega), Array.getElem?_toList]
  simp [World.cell?, q3]

theorem zero_slim : VT.Slim 900 zeroT := by
 unfold zeroT
 rw [Vt.slim_mk]
 exact ⟨Nat.zero_le _, Nat.zero_le _, fun i h => absurd h (by simp)⟩

end Cm
end Go.Proofs.YtfmnacebgplpcaaGreat
namespace Go.Proofs.YtfmnacebgplpcaaGreat
namespace Cm
variable {X : Nat → Prop}
open Nm (ret_int ret_bool)
open Vt (VT Rep BoxAt below_drew Cloned put5)
open Ev (EV FieldsOk evCells vCells EBox ERep zeroT)

def evSame (a b : EV) : Bool := a.k == b.k && a.id == b.id && a.n == b.n && a.at' == b.at' && decide (a.name = b.name) && decide (a.text = b.text) && a.v.same b.v
theorem evSame_refl (a : EV) : evSame a a = true := by simp [evSame, Vt.same_refl]

structure EvsIn (w : World) (A : Option Addr) (cap : Nat) (es : List EV) : Prop where
 le : es.length ≤ cap
 cap_le : cap ≤ maxLen
 at_ : 0 < es.length → ∃ b off, A = some ⟨b, off, none⟩ ∧ b < w.heap.size ∧ ∀ i (h : i < es.length), ∃ lo hi vk vn vf vs A' m c, FieldsOk es[i] ∧ Rep w lo hi es[i].v (vCells vk vn vf vs A' m c) ∧ hi ≤ w.heap.size ∧
  ∀ q, q < 11 → w.cell? ⟨b, off + i * 11 + q, none⟩ = (evCells es[i] vk vn vf vs A' m c)[q]?

theorem EvsIn.later {w w' : World} {A : Option Addr} {cap : Nat} {es : List EV} (h : EvsIn w A cap es) (hb : Below w.heap.size w w') : EvsIn w' A cap es := ⟨h.le, h.cap_le, fun hp => by
 obtain ⟨b, off, hA, hlt, h3⟩ := h.at_ hp
 refine ⟨b, off, hA, Nat.lt_of_lt_of_le hlt hb.size, fun i hi => ?_⟩
 obtain ⟨lo, hi', vk, vn, vf, vs, A', m, c, h4, h5, h6, h7⟩ := h3 i hi
 exact ⟨lo, hi', vk, vn, vf, vs, A', m, c, h4, h5.later (hb.mono h6), Nat.le_trans h6 hb.size, fun q hq => (hb.cell (p := ⟨b, _, none⟩) hlt).trans (h7 q hq)⟩⟩

theorem EvsAt.read {w : World} {base : Nat} {A : Option Addr} {cap n : Nat} {es : List EV} (h : EvsAt w base A cap n es) : EvsIn w A cap es := by
 have hle : es.length ≤ cap ∧ cap ≤ maxLen := by
  obtain ⟨rfl, xs, h1, -⟩ := h
  obtain ⟨A', cap', hv, h2, h3⟩ := Vt.own_form h1
  injection hv with _ _ hc
  subst hc
  exact ⟨h2, h3⟩
 refine ⟨hle.1, hle.2, fun hp => ?_⟩
 obtain ⟨r, lo, hi, vk, vn, vf, vs, A', m, c, rfl, hr, -⟩ := evs_cells h 0 hp
 refine ⟨r, 0, rfl, hr, fun i hi => ?_⟩
 obtain ⟨r', lo, hi', vk, vn, vf, vs, A', m, c, hA, -, -, -, -, -, h1, h2, h3, -, -, h4⟩ := evs_cells h i hi
 injection hA with hA
 injection hA with hr' _ _
 subst hr'
 exact ⟨lo, hi', vk, vn, vf, vs, A', m, c, h1, h2, h3, fun q hq => by rw [Nat.zero_add]; exact h4 q hq⟩

structure MAt (w : World) (base : Nat) (A : Option Addr) (cap : Nat) (es : List EV) : Prop where
 nil_ : es = [] → A = none ∧ cap = 0
 le : es.length ≤ cap
 cap_le : cap ≤ maxLen
 at_ : 0 < es.length → ∃ b, A = some ⟨b, 0, none⟩ ∧ base ≤ b ∧ b < w.heap.size ∧ ∀ i (h : i < es.length), ∃ vk vn vf vs A' m c, FieldsOk es[i] ∧ Rep w 0 base es[i].v (vCells vk vn vf vs A' m c) ∧
  ∀ q, q < 11 → w.cell? ⟨b, i * 11 + q, none⟩ = (evCells es[i] vk vn vf vs A' m c)[q]?

theorem MAt.nil (w : World) (base : Nat) : MAt w base none 0 [] := ⟨fun _ => ⟨rfl, rfl⟩, Nat.le_refl _, Nat.zero_le _, fun h => absurd h (by simp)⟩
theorem MAt.later {w w' : World} {base : Nat} {A : Option Addr} {cap : Nat} {es : List EV} (h : MAt w base A cap es) (hbs : base ≤ w.heap.size) (hb : Below w.heap.size w w') : MAt w' base A cap es := ⟨h.nil_, h.le, h.cap_le, fun hp => by
 obtain ⟨b, rfl, h1, h2, h3⟩ := h.at_ hp
 refine ⟨b, rfl, h1, Nat.lt_of_lt_of_le h2 hb.size, fun i hi => ?_⟩
 obtain ⟨vk, vn, vf, vs, A', m, c, h4, h5, h7⟩ := h3 i hi
 exact ⟨vk, vn, vf, vs, A', m, c, h4, h5.later (hb.mono hbs), fun q hq => (World.cell?_of_block (a := ⟨b, _, none⟩) (hb.block b h2)).trans (h7 q hq)⟩⟩
end Cm
end Go.Proofs.YtfmnacebgplpcaaGreat
namespace Go.Proofs.YtfmnacebgplpcaaGreat
namespace Cm
open Nm (bitsW ret_int ret_bool)
open Vt (VT Rep BoxAt below_drew Cloned put5 toList_inj)
open Ev (EV FieldsOk evCells vCells EBox ERep zeroT)

def HeadE (a b : EV) : Prop := a.k = b.k ∧ a.id = b.id ∧ a.n = b.n ∧ a.at' = b.at' ∧ a.name = b.name ∧ a.text = b.text
theorem evSame_head {a b : EV} (h : HeadE a b) : evSame a b = a.v.same b.v := by
 obtain ⟨h1, h2, h3, h4, h5, h6⟩ := h
 simp [evSame, h1, h2, h3, h4, h5, h6]
theorem evSame_not {a b : EV} (h : ¬ HeadE a b) : evSame a b = false := by
 rw [Bool.eq_false_iff]
 intro q
 simp [evSame] at q
 exact h ⟨q.1.1.1.1.1.1, q.1.1.1.1.1.2, q.1.1.1.1.2, q.1.1.1.2, q.1.1.2, q.1.2⟩

set_option maxRecDepth 100000 in
set_option maxHeartbeats 2000000 in
theorem rsev_any (a b : EV) (w : World) (lo hi lo' hi' : Nat) (x y : Value) (hR : ERep w lo hi a x) (hz : hi ≤ w.heap.size) (hR' : ERep w lo' hi' b y) (hz' : hi' ≤ w.heap.size) :
  Calls Tryz.prog 117 #[x, y] w fun r w' => r = .returned (.bool (evSame a b)) ∧ Below w.heap.size w w' := by
 obtain ⟨hf, vk, vn, vf, vs, A, m, c, rfl, hv⟩ := hR
 obtain ⟨hf', vk', vn', vf', vs', A', m', c', rfl, hv'⟩ := hR'
 have HB0 := Lib.hid fun Z Z' => ((Below.refl w.heap.size w).alloc (Nat.le_refl _) Z).alloc (by simp) Z'
 have HS := Lib.hid fun W (hW : Below w.heap.size w W) => Vt.rsame_any a.v b.v W lo hi lo' hi' _ _ (hv.later (hW.mono hz)) (Nat.le_trans hz hW.size) (hv'.later (hW.mono hz')) (Nat.le_trans hz' hW.size)
 clear hv hv' hf hf'
 obtain ⟨k, id, n, at', name, text, v⟩ := a
 obtain ⟨k', id', n', at'', name', text', v'⟩ := b
 unfold vCells at HS
 simp only at HS
 by_cases hh : HeadE ⟨k, id, n, at', name, text, v⟩ ⟨k', id', n', at'', name', text', v'⟩
 ·rw [evSame_head hh]
  obtain ⟨h1, h2, h3, h4, h5, h6⟩ := hh
  simp only at h1 h2 h3 h4 h5 h6
  subst h1 h2 h3 h4 h5 h6
  unfold evCells
  go_enter Tryz.func117, Tryz.ntmps117
  go_wp2_with fail
  refine (HS.out _ (HB0.out _ _)).mono ?_
  rintro e w1 ⟨rfl, hb⟩
  have HB1 := Lib.hid ((HB0.out _ _).trans (hb.mono (HB0.out _ _).size))
  clear hb
  go_wp2_with fail
  go_ret
  exact ⟨ret_bool (by simp), HB1.out⟩
 ·rw [evSame_not hh]
  have H := Lib.hid hh; clear hh
  unfold evCells
  go_enter Tryz.func117, Tryz.ntmps117
  go_wp2_with fail
  all_goals first
   | (go_ret; exact ⟨rfl, HB0.out _ _⟩)
   | (exfalso
      refine H.out ⟨?_, ?_, ?_, ?_, ?_, ?_⟩
      all_goals clear H HS HB0
      all_goals first
       | assumption
       | (exact (toList_inj _ _).1 (by assumption))
       | omega
       | (simp at *; omega))

theorem EvsIn.get {w : World} {A : Option Addr} {cap : Nat} {es : List EV} (h : EvsIn w A cap es) (i : Nat) (hi : i < es.length) :
  ∃ b off lo hi vk vn vf vs A' m c, A = some ⟨b, off, none⟩ ∧ b < w.heap.size ∧ FieldsOk es[i] ∧ Rep w lo hi es[i].v (vCells vk vn vf vs A' m c) ∧ hi ≤ w.heap.size ∧
   w.cell? ⟨b, off + i * 11, none⟩ = some (.int .i64 es[i].k) ∧ w.cell? ⟨b, off + i * 11 + 1, none⟩ = some (.int .u64 es[i].id) ∧ w.cell? ⟨b, off + i * 11 + 2, none⟩ = some (.int .i64 es[i].n) ∧ w.cell? ⟨b, off + i * 11 + 3, none⟩ = some (.int .u64 es[i].at') ∧
   w.cell? ⟨b, off + i * 11 + 4, none⟩ = some (.string es[i].name) ∧ w.cell? ⟨b, off + i * 11 + 5, none⟩ = some (.string es[i].text) ∧ w.cell? ⟨b, off + i * 11 + 6, none⟩ = some (.int .i64 vk) ∧ w.cell? ⟨b, off + i * 11 + 7, none⟩ = some (.int .i64 vn) ∧
   w.cell? ⟨b, off + i * 11 + 8, none⟩ = some (.float .f64 vf) ∧ w.cell? ⟨b, off + i * 11 + 9, none⟩ = some (.string vs) ∧ w.cell? ⟨b, off + i * 11 + 10, none⟩ = some (.slice A' m c) := by
 obtain ⟨b, off, hA, hlt, h3⟩ := h.at_ (by omega)
 obtain ⟨lo, hi', vk, vn, vf, vs, A', m, c, h4, h5, h6, h7⟩ := h3 i hi
 exact ⟨b, off, lo, hi', vk, vn, vf, vs, A', m, c, hA, hlt, h4, h5, h6, h7 0 (by omega), h7 1 (by omega), h7 2 (by omega), h7 3 (by omega), h7 4 (by omega), h7 5 (by omega), h7 6 (by omega), h7 7 (by omega), h7 8 (by omega), h7 9 (by omega), h7 10 (by omega)⟩

def evsSame (a b : List EV) : Bool := a.length == b.length && (a.zip b).all (fun p => evSame p.1 p.2)
theorem evsSame_refl (a : List EV) : evsSame a a = true := by
 simp only [evsSame, beq_self_eq_true, Bool.true_and, List.all_eq_true]
 rintro ⟨x, y⟩ h
 rw [List.zip_eq_zipWith] at h
 have : x = y := by
  rw [List.mem_iff_getElem] at h
  obtain ⟨i, hi, he⟩ := h
  simp at he
  exact he.1.symm.trans he.2
 subst this
 exact evSame_refl x

end Cm
end Go.Proofs.YtfmnacebgplpcaaGreat
namespace Go.Proofs.YtfmnacebgplpcaaGreat
namespace Cn
open Nm (bitsW ret_int ret_bool)
open Vt (VT Rep BoxAt below_drew Cloned put5 KidsAt HeadOk)
open Ev (EV FieldsOk evCells vCells EBox ERep zeroT take_drop tk ap rd1 rd2 cons_drop)
open Cm (rowOf EvsIn EvsAt EvNew evsSame evSame)

def ECell (w : World) (ro : Option Nat) (xs : List Value) (i : Nat) (e : EV) : Prop := ∃ lo hi vk vn vf vs A m c, FieldsOk e ∧ Rep w lo hi e.v (vCells vk vn vf vs A m c) ∧ hi ≤ w.heap.size ∧ (∀ r, ro = some r → r < lo ∨ hi ≤ r) ∧
 ∀ j, j < 11 → xs[i * 11 + j]? = (evCells e vk vn vf vs A m c)[j]?
def ERow (w : World) (base : Nat) (A : Option Addr) (cap n : Nat) (es : List EV) : Prop := es.length = n ∧ ∃ xs, w.ownsRow base 71 11 (.slice A n cap) n xs ∧ ∀ i (h : i < es.length), ECell w (rowOf A) xs i es[i]

theorem ECell.keep {w w' : World} {ro : Option Nat} {xs : List Value} {i : Nat} {e : EV} (h : ECell w ro xs i e) (hz : w.heap.size ≤ w'.heap.size) (ho : ∀ b, b < w.heap.size → some b ≠ ro → w'.heap[b]? = w.heap[b]?) : ECell w' ro xs i e := by
 obtain ⟨lo, hi, vk, vn, vf, vs, A, m, c, h1, h2, h3, h5, h6⟩ := h
 refine ⟨lo, hi, vk, vn, vf, vs, A, m, c, h1, h2.keep fun b o hb1 hb2 => ?_, Nat.le_trans h3 hz, h5, h6⟩
 exact World.cell?_of_block (a := ⟨b, o, none⟩) (ho b (by omega) (fun e => by have := h5 b e.symm; omega))

theorem own_keep {w w' : World} {base n : Nat} {T : TypeId} {s : Nat} {v : Value} {xs : List Value} (h : w.ownsRow base T s v n xs) (hb : Below w.heap.size w w') : w'.ownsRow base T s v n xs := by
 refine ⟨h.1, ?_⟩
 rcases h.2 with h | ⟨r, cp, cur, q1, q2, q3, q4⟩
 ·exact .inl h
 ·exact .inr ⟨r, cp, cur, q1, q2, (hb.block r (Array.getElem?_eq_some_iff.1 q3).1).trans q3, q4⟩
theorem own_lt {w : World} {base n cap : Nat} {T : TypeId} {s : Nat} {A : Option Addr} {xs : List Value} (h : w.ownsRow base T s (.slice A n cap) n xs) : ∀ r, rowOf A = some r → r < w.heap.size ∧ base ≤ r := fun r hr => by
 rcases h.2 with ⟨h2, -⟩ | ⟨r', cp, cur, q1, q0, q3, -⟩
 ·rw [← Cm.rowOf_own A n cap, h2] at hr; cases hr
 ·rw [← Cm.rowOf_own A n cap, q1] at hr
  obtain rfl : r' = r := Option.some.inj hr
  exact ⟨(Array.getElem?_eq_some_iff.1 q3).1, q0⟩

theorem ERow.later {w w' : World} {base : Nat} {A : Option Addr} {cap n : Nat} {es : List EV} (h : ERow w base A cap n es) (hb : Below w.heap.size w w') : ERow w' base A cap n es := by
 obtain ⟨h0, xs, h1, h3⟩ := h
 exact ⟨h0, xs, own_keep h1 hb, fun i hi => (h3 i hi).keep hb.size (fun b hlt _ => hb.block b hlt)⟩

def BB (w : World) (g : Nat) (f : ByteArray) (at' : Nat) (A : Option Addr) (n c : Nat) : Prop := w.heap[g]? = some (.cells #[.string f, .int .u64 at', .slice A n c] 33 (0, 0))
theorem BB.cells {w : World} {g : Nat} {f : ByteArray} {at' : Nat} {A : Option Addr} {n c : Nat} (h : BB w g f at' A n c) :
  w.cell? ⟨g, 0, none⟩ = some (.string f) ∧ w.cell? ⟨g, 1, none⟩ = some (.int .u64 at') ∧ w.cell? ⟨g, 2, none⟩ = some (.slice A n c) ∧ ∀ o, w.frozen? ⟨g, o, none⟩ = false := by
 unfold BB at h; simp [World.cell?, World.frozen?, h]
theorem BB.later {w w' : World} {g B : Nat} {f : ByteArray} {at' : Nat} {A : Option Addr} {n c : Nat} (h : BB w g f at' A n c) (hb : Below B w w') (hg : g < B) : BB w' g f at' A n c := (hb.block g hg).trans h
theorem BB.lt {w : World} {g : Nat} {f : ByteArray} {at' : Nat} {A : Option Addr} {n c : Nat} (h : BB w g f at' A n c) : g < w.heap.size := (Array.getElem?_eq_some_iff.1 h).1
theorem BB.new (w : World) (f : ByteArray) (at' : Nat) (A : Option Addr) (n c : Nat) : BB (w.alloc (.cells #[.string f, .int .u64 at', .slice A n c] 33)) w.heap.size f at' A n c := heap_alloc_new w _
theorem BB.set {w : World} {g : Nat} {f : ByteArray} {at' : Nat} {A A2 : Option Addr} {n c n2 c2 : Nat} (h : BB w g f at' A n c) : BB (w.setCell ⟨g, 2, none⟩ (.slice A2 n2 c2)) g f at' A2 n2 c2 := by
 unfold BB at h ⊢; simp [World.setCell, Array.getElem?_modify, h]
theorem BB.far {w : World} {g b o : Nat} {f : ByteArray} {at' : Nat} {A : Option Addr} {n c : Nat} (h : BB w g f at' A n c) (hb : b ≠ g) (v : Value) : BB (w.setCell ⟨b, o, none⟩ v) g f at' A n c :=
 (Below.heap_setCell w ⟨b, o, none⟩ v g (fun e => hb e.symm)).trans h

theorem ev_one (e : EV) (vk vn : Int) (vf : Nat) (vs : ByteArray) (A : Option Addr) (m c : Nat) : ∀ u ∈ (evCells e vk vn vf vs A m c).toList, u.oneCell' = true := Cm.ev_one e vk vn vf vs A m c

end Cn
end Go.Proofs.YtfmnacebgplpcaaGreat
namespace Go.Proofs.YtfmnacebgplpcaaGreat
namespace Cn
open Nm (bitsW ret_int ret_bool)
open Vt (VT Rep BoxAt below_drew Cloned put5 KidsAt HeadOk)
open Ev (EV FieldsOk evCells vCells EBox ERep zeroT take_drop tk ap rd1 rd2 cons_drop)
open Cm (rowOf EvsIn EvsAt EvNew evsSame evSame)

theorem evs_setCell {w : World} {base : Nat} {A : Option Addr} {cap n : Nat} {es : List EV} (h : EvsAt w base A cap n es) {p : Addr} (hp : p.block < base) (v : Value) : EvsAt (w.setCell p v) base A cap n es := by
 obtain ⟨h0, xs, h1, h3⟩ := h
 have hb : ∀ b, base ≤ b → (w.setCell p v).heap[b]? = w.heap[b]? := fun b hb => Below.heap_setCell _ _ _ b (by omega)
 refine ⟨h0, xs, ⟨h1.1, ?_⟩, fun i hi => ?_⟩
 ·rcases h1.2 with h | ⟨r, cp, cur, q1, q2, q3, q4⟩
  ·exact .inl h
  ·exact .inr ⟨r, cp, cur, q1, q2, (hb r q2).trans q3, q4⟩
 ·obtain ⟨lo, hi', vk, vn, vf, vs, A, m, c, h0, h1, h2, h3, h5, hfr, h6⟩ := h3 i hi
  have hin := Cm.rep_row h2
  exact ⟨lo, hi', vk, vn, vf, vs, A, m, c, h0, h1, h2.setCell (.inl (by omega)) v, by simpa [World.setCell] using h3, h5, fun hp b off hA o => (Cm.frozen_of_block (hb b (by have := hin hp b off hA; omega)) o).trans (hfr hp b off hA o), h6⟩
theorem evs_base {w : World} {base base' : Nat} {A : Option Addr} {cap n : Nat} {es : List EV} (h : EvsAt w base A cap n es) (hb : base' ≤ base) : EvsAt w base' A cap n es := by
 obtain ⟨h0, xs, h1, h3⟩ := h
 refine ⟨h0, xs, ⟨h1.1, ?_⟩, fun i hi => ?_⟩
 ·rcases h1.2 with h | ⟨r, cp, cur, q1, q2, q3, q4⟩
  ·exact .inl h
  ·exact .inr ⟨r, cp, cur, q1, by omega, q3, q4⟩
 ·obtain ⟨lo, hi', vk, vn, vf, vs, A, m, c, h0, h1, h2, h3, h5, hfr, h6⟩ := h3 i hi
  exact ⟨lo, hi', vk, vn, vf, vs, A, m, c, by omega, h1, h2, h3, h5, hfr, h6⟩

theorem box_ev (w : World) (e : EV) (vk vn : Int) (vf : Nat) (vs : ByteArray) (A : Option Addr) (m c : Nat) : EBox (w.alloc (.cells (evCells e vk vn vf vs A m c) 71)) w.heap.size (evCells e vk vn vf vs A m c) := heap_alloc_new w _
end Cn
end Go.Proofs.YtfmnacebgplpcaaGreat
namespace Go.Proofs.YtfmnacebgplpcaaGreat
namespace Cn
open Vt (VT Rep)
open Ev (EV FieldsOk evCells vCells)
open Cm (EvsIn)
open Go.ChangeShapes Go.WideShapes Go.ChangeAt Go.Joins Go.Deep

theorem eleven (cs : List Value) (h : cs.length = 11) : ∃ a b c d e f g i j k l, cs = [a, b, c, d, e, f, g, i, j, k, l] := by
 match cs, h with
 | [a, b, c, d, e, f, g, i, j, k, l], _ => exact ⟨a, b, c, d, e, f, g, i, j, k, l, rfl⟩
theorem three (cs : List Value) (h : cs.length = 3) : ∃ a b c, cs = [a, b, c] := by
 match cs, h with
 | [a, b, c], _ => exact ⟨a, b, c, rfl⟩

set_option maxRecDepth 100000 in
theorem open_ev {H : Type} {enc : TypeId × Value → H} {W : World} {base : Nat} {spare : Nat → Bool} {held : Bool} (fuel : Nat) (cs : List Value) (x : DataW H × List MemPlace)
  (h : DataW.trod enc Tryz.prog W base spare held fuel 71 cs = some x) : ∃ (e : EV) (vk vn : Int) (vf : Nat) (vs : ByteArray) (A' : Option Addr) (m c : Nat), FieldsOk e ∧ Rep W base W.heap.size e.v (vCells vk vn vf vs A' m c) ∧ cs = (evCells e vk vn vf vs A' m c).toList := by
 have hC : Tryz.prog.cellsOf 71 = 11 := by kernel_rfl
 obtain ⟨xs, n, hn, hx, hlen, hxl, hg⟩ := DataW.trod_struct Tryz.underlying71 h
 obtain ⟨c0, c1, c2, c3, c4, c5, c6, c7, c8, c9, c10, rfl⟩ := eleven cs (hlen.trans hC)
 have hx : ∀ j : Nat, j < 7 → ∃ y, xs[j]? = some y := fun j hj => ⟨_, List.getElem?_eq_getElem (by rw [hxl]; exact hj)⟩
 obtain ⟨y0, z0⟩ := hx 0 (by omega); obtain ⟨y1, z1⟩ := hx 1 (by omega); obtain ⟨y2, z2⟩ := hx 2 (by omega); obtain ⟨y3, z3⟩ := hx 3 (by omega); obtain ⟨y4, z4⟩ := hx 4 (by omega); obtain ⟨y5, z5⟩ := hx 5 (by omega); obtain ⟨y6, z6⟩ := hx 6 (by omega)
 have g0 := (hg 0 _ rfl).trans z0; have g1 := (hg 1 _ rfl).trans z1; have g2 := (hg 2 _ rfl).trans z2; have g3 := (hg 3 _ rfl).trans z3; have g4 := (hg 4 _ rfl).trans z4; have g5 := (hg 5 _ rfl).trans z5; have g6 := (hg 6 _ rfl).trans z6
 have k1 : Tryz.prog.cellsOf 3 = 1 := by kernel_rfl
 have k2 : Tryz.prog.cellsOf 9 = 1 := by kernel_rfl
 have k3 : Tryz.prog.cellsOf 69 = 5 := by kernel_rfl
 have k4 : Tryz.prog.cellsOf 30 = 1 := by kernel_rfl
 simp [k1, k2, k3, k4] at g0 g1 g2 g3 g4 g5 g6
 obtain ⟨k, e0, -, w0⟩ := DataW.trod_int Tryz.underlying3 g0
 obtain ⟨id, e1, -, w1⟩ := DataW.trod_int Tryz.underlying30 g1
 obtain ⟨n2, e2, -, w2⟩ := DataW.trod_int Tryz.underlying3 g2
 obtain ⟨at', e3, -, w3⟩ := DataW.trod_int Tryz.underlying30 g3
 obtain ⟨nm, e4, -, w4⟩ := DataW.trod_string Tryz.underlying9 g4
 obtain ⟨tx, e5, -, w5⟩ := DataW.trod_string Tryz.underlying9 g5
 obtain ⟨t, ht⟩ := Vt.open_vt _ _ _ g6
 obtain rfl := List.singleton_inj.1 e0
 obtain rfl := List.singleton_inj.1 e1
 obtain rfl := List.singleton_inj.1 e2
 obtain rfl := List.singleton_inj.1 e3
 obtain rfl := List.singleton_inj.1 e4
 obtain rfl := List.singleton_inj.1 e5
 simp [Lit.wf, IntKind.min, IntKind.max, IntKind.bits, IntKind.signed] at w0 w1 w2 w3
 obtain ⟨vk, vn, vf, vs, l, A', cap, -, hv, -⟩ := ht.open_
 rw [hv] at ht
 injection hv with hv
 simp at hv
 obtain ⟨rfl, rfl, rfl, rfl, rfl⟩ := hv
 obtain ⟨mid, hmid⟩ : ∃ mn : Nat, id = mn := ⟨id.toNat, by omega⟩
 obtain ⟨mat, hmat⟩ : ∃ mn : Nat, at' = mn := ⟨at'.toNat, by omega⟩
 subst hmid hmat
 exact ⟨⟨k, mid, n2, mat, nm, tx, t⟩, vk, vn, vf, vs, A', l.length, cap, ⟨by show _ ≤ k; omega, by show k ≤ _; omega, by show mid < _; omega, by show _ ≤ n2; omega, by show n2 ≤ _; omega, by show mat < _; omega, w4, w5⟩, ht, rfl⟩

set_option maxRecDepth 100000 in
theorem evs_trod {H : Type} {enc : TypeId × Value → H} {W : World} {b1 : Nat} {spare : Nat → Bool} {held : Bool} (fuel : Nat) (c0 : Value) (x : DataW H × List MemPlace)
  (hf : DataW.trod enc Tryz.prog W b1 spare held fuel 31 [c0] = some x) : ∃ es A cap, c0 = .slice A es.length cap ∧ EvsIn W A cap es ∧ ((es = [] ∧ x.1 = .nil) ∨ ∃ elems rest, x.1 = .slice elems rest ∧ elems.length = es.length) := by
 have hC : Tryz.prog.cellsOf 71 = 11 := by kernel_rfl
 rcases DataW.trod_slice Tryz.underlying31 hf with ⟨e4, rfl⟩ | ⟨a, l0, cp0, elems, rest, n', hn', e4, rfl, hb, hl, hm, hel, he, -, -⟩
 ·obtain rfl := List.singleton_inj.1 e4
  exact ⟨[], none, 0, rfl, ⟨Nat.le_refl _, Nat.zero_le _, fun h => absurd h (by simp)⟩, .inl ⟨rfl, rfl⟩⟩
 ·obtain rfl := List.singleton_inj.1 e4
  have h4 : ∀ i : Nat, ∃ tC : EV × (Int × Int × Nat × ByteArray × Option Addr × Nat × Nat), i < l0 → FieldsOk tC.1 ∧ Rep W b1 W.heap.size tC.1.v (vCells tC.2.1 tC.2.2.1 tC.2.2.2.1 tC.2.2.2.2.1 tC.2.2.2.2.2.1 tC.2.2.2.2.2.2.1 tC.2.2.2.2.2.2.2) ∧
    ∀ j, j < 11 → W.cell? (a.add (i * 11) |>.add j) = (evCells tC.1 tC.2.1 tC.2.2.1 tC.2.2.2.1 tC.2.2.2.2.1 tC.2.2.2.2.2.1 tC.2.2.2.2.2.2.1 tC.2.2.2.2.2.2.2)[j]? := fun i => by
   by_cases hi : i < l0
   ·have e := he i hi
    rw [List.getElem?_eq_getElem (by omega)] at e
    obtain ⟨cs', q1, q2⟩ := Option.bind_eq_some_iff.1 e
    obtain ⟨o, vk, vn, vf, vs, A', m, c, p1, p3, rfl⟩ := open_ev n' cs' _ q2
    rw [hC] at q1
    obtain ⟨_, ql, qc⟩ := World.cells?_some q1
    exact ⟨(o, vk, vn, vf, vs, A', m, c), fun _ => ⟨p1, p3, fun j hj => by rw [qc j hj, Array.getElem?_toList]⟩⟩
   ·exact ⟨(⟨0, 0, 0, 0, .empty, .empty, .mk 0 0 0 .empty []⟩, 0, 0, 0, .empty, none, 0, 0), fun h => absurd h hi⟩
  obtain ⟨F, hF⟩ := Classical.axiomOfChoice h4
  have hlen' : ((List.range l0).map fun i => (F i).1).length = l0 := by simp
  refine ⟨(List.range l0).map fun i => (F i).1, some a, cp0, by rw [hlen'], ⟨by rw [hlen']; exact hl, hm, fun hp => ?_⟩, .inr ⟨_, _, rfl, by rw [hlen', List.length_map]; exact hel⟩⟩
  rw [hlen'] at hp
  have h0 := (hF 0 hp).2.2 0 (by omega)
  obtain ⟨b, off, spot⟩ := a
  have hs : spot = none := by
   cases spot with
   | none => rfl
   | some q =>
    simp [Addr.add, World.cell?, evCells] at h0
    split at h0 <;> simp at h0
  subst hs
  have hlt : b < W.heap.size := by
   rcases Nat.lt_or_ge b W.heap.size with q | q
   ·exact q
   ·simp [Addr.add, World.cell?, Array.getElem?_eq_none q, evCells] at h0
  refine ⟨b, off, rfl, hlt, fun i hi => ?_⟩
  rw [hlen'] at hi
  obtain ⟨p1, p3, p4⟩ := hF i hi
  refine ⟨b1, W.heap.size, _, _, _, _, _, _, _, by simpa using p1, by simpa using p3, Nat.le_refl _, fun j hj => ?_⟩
  have := p4 j hj
  rw [Go.Deep.add_add, add_plain] at this
  rw [Nat.add_assoc, this]
  simp

end Cn
end Go.Proofs.YtfmnacebgplpcaaGreat
namespace Go.Proofs.YtfmnacebgplpcaaGreat
namespace Cn
open Nm (bitsW ret_int ret_bool)
open Vt (VT Rep BoxAt below_drew Cloned put5 KidsAt HeadOk)
open Ev (EV FieldsOk evCells vCells EBox ERep zeroT take_drop tk ap rd1 rd2 cons_drop)
open Cm (rowOf EvsIn EvsAt EvNew evsSame evSame)

theorem outside_any (k : Int) (w : World) : Calls Tryz.prog 98 #[.int .i64 k] w fun r w' => r = .returned (.bool (decide (1 ≤ k ∧ k ≤ 6))) ∧ w = w' := by
 by_cases h : 1 ≤ k
 ·have hb : decide (1 ≤ k) = true := by simpa using h
  go_enter Tryz.func98, Tryz.ntmps98
  go_wp2_with fail
  go_ret
  exact ⟨ret_bool (by simp [h]), rfl⟩
 ·have hb : decide (1 ≤ k) = false := by simpa using h
  go_enter Tryz.func98, Tryz.ntmps98
  go_wp2_with fail
  go_ret
  exact ⟨ret_bool (by simp [h]), rfl⟩

def Asks (g : Nat) (p : EV → Bool) (es : List EV) : Prop := ∀ (e : EV) (_ : e ∈ es) (lo hi : Nat) (vk vn : Int) (vf : Nat) (vs : ByteArray) (A : Option Addr) (m c : Nat) (w : World), FieldsOk e → Rep w lo hi e.v (vCells vk vn vf vs A m c) → hi ≤ w.heap.size →
 Calls Tryz.prog g #[.agg (evCells e vk vn vf vs A m c)] w fun r w' => r = .returned (.bool (p e)) ∧ Below w.heap.size w w'

def Found (p : EV → Bool) (es : List EV) (i : Int) : Prop := (i = -1 ∧ ∀ m (h : m < es.length), p es[m] = false) ∨ ∃ n : Nat, i = n ∧ ∃ h : n < es.length, p es[n] = true ∧ ∀ m (h : m < es.length), m < n → p es[m] = false

set_option maxRecDepth 100000 in
set_option maxHeartbeats 2000000 in
theorem ifunc_any (g : Nat) (hcall : ∀ args w, (callFunc g args).run Tryz.prog w = .ok (.enter g args) w) (p : EV → Bool) (es : List EV) (hG : Asks g p es) (A : Option Addr) (cap : Nat) (w : World) (h : EvsIn w A cap es) :
  Calls Tryz.prog 110 #[.slice A es.length cap, .func (.func g) #[] #[]] w fun r w' => ∃ i, r = .returned (.int .i64 i) ∧ Found p es i ∧ Below w.heap.size w w' := by
 have hl := h.le
 have hc := h.cap_le
 simp only [maxLen] at hc
 have HK := Lib.hid h; clear h
 have HG := Lib.hid hG; clear hG
 go_enter Tryz.func110, Tryz.ntmps110
 go_wp2_with fail
 go_loopw [4, 8] (fun o i wr => ∃ (j : Nat), j ≤ es.length ∧ i = .int .i64 j ∧ o = .int .i64 0 ∧ (∀ m (h : m < es.length), m < j → p es[m] = false) ∧ Below w.heap.size w wr) (fun _ i _ => es.length - (intOf i).toNat)
 case atStart => exact ⟨0, by omega, rfl, rfl, fun m _ h => absurd h (by omega), Below.refl _ _⟩
 case round =>
  obtain ⟨j, hj, rfl, rfl, hno, hb⟩ := hrel
  have HNO := Lib.hid hno; have HB := Lib.hid hb
  clear hno hb
  by_cases hlt : j < es.length
  ·obtain ⟨b, off, lo, hi, vk, vn, vf, vs, A', m, c, rfl, hbl, hf, hv, hhi, d0, d1, d2, d3, d4, d5, d6, d7, d8, d9, d10⟩ := (HK.out.later HB.out).get j hlt
   have HC := Lib.hid (HG.out es[j] (List.getElem_mem hlt) lo hi vk vn vf vs A' m c wr hf hv hhi)
   unfold evCells at HC
   clear hf hv
   go_wp2_with fail
   refine HC.out.mono ?_
   rintro x w1 ⟨rfl, hb1⟩
   have HB1 := Lib.hid (HB.out.trans (hb1.mono HB.out.size))
   clear hb1 d0 d1 d2 d3 d4 d5 d6 d7 d8 d9 d10 HC
   cases hp : p es[j] with
   | true =>
    have HP := Lib.hid hp; clear hp
    go_wp2_with fail
    go_ret
    exact ⟨_, rfl, .inr ⟨j, rfl, hlt, HP.out, HNO.out⟩, HB1.out⟩
   | false =>
    have HP := Lib.hid hp; clear hp
    go_wp2_with fail
    go_roundw
    case rel => exact ⟨j + 1, by omega, by go_num, rfl, fun m h hm => by
     rcases Nat.lt_or_ge m j with q | q
     ·exact HNO.out m h q
     ·obtain rfl : m = j := by omega
      exact HP.out, HB1.out⟩
    case measure => simp [intOf]; omega
  ·have hj' : j = es.length := by omega
   subst hj'
   go_wp2_with fail
   go_ret
   exact ⟨_, rfl, .inl ⟨rfl, fun m h => HNO.out m h h⟩, HB.out⟩

end Cn
end Go.Proofs.YtfmnacebgplpcaaGreat
namespace Go.Proofs.YtfmnacebgplpcaaGreat
namespace Cn
open Nm (bitsW ret_int ret_bool)
open Vt (VT Rep BoxAt below_drew Cloned put5 KidsAt HeadOk)
open Ev (EV FieldsOk evCells vCells EBox ERep zeroT take_drop tk ap rd1 rd2 cons_drop)
open Cm (rowOf EvsIn EvsAt EvNew evsSame evSame rsev_any)

def efew (e : EV) : Bool := e.v.few && decide (e.name.size ≤ 1100) && decide (e.text.size ≤ 1100)

theorem M55 {p : Prop} (h : p := by
 go_wp2_with (go_at_call 56; refine HV.out.mono ?_; rintro x w1 ⟨rfl, hb1⟩; have HB1 := Lib.hid (HB0.out.trans (hb1.mono HB0.out.size)); obtain ⟨q0, q1, q2, q3, q4, q5, q6, q7, q8, q9, q10⟩ := EBox.cells (HX0.out.later hb1 HX0.out.lt); clear hb1)
 go_ret
 exact ⟨ret_bool (by unfold efew; rw [HFW.out]; simp; omega), HB1.out⟩) : p := h
namespace Q385
theorem Y383 {p : Prop} (h : p := by
 have HV := Lib.hid (Vt.few_any e.v W0 lo hi _ (hv.later (hb0.mono hz)) (Nat.le_trans hz hb0.size))
 obtain ⟨g0, g1, g2, g3, g4, g5, g6, g7, g8, g9, g10⟩ := EBox.cells hx0
 have HX0 := Lib.hid hx0
 have HB0 := Lib.hid hb0
 have hsn := hf.s1
 have hst := hf.t1
 simp only [maxLen] at hsn hst
 clear hv hf hx0 hb0
 unfold evCells at hW0 ⊢
 unfold vCells at HV
 replace hW0 := Lib.hid hW0
 go_enter Tryz.func28, Tryz.ntmps28
 go_upto_region 1 with fail
 rw [← hW0.out]
 generalize hfw : e.v.few = fw at *
 have HFW := Lib.hid hfw; clear hfw
 cases fw with
 | false =>
  go_wp2_with (go_at_call 56; refine HV.out.mono ?_; rintro x w1 ⟨rfl, hb1⟩; have HB1 := Lib.hid (HB0.out.trans (hb1.mono HB0.out.size)); clear hb1)
  go_ret
  exact ⟨ret_bool (by unfold efew; rw [HFW.out]; rfl), HB1.out⟩
 | true =>
  by_cases h1 : e.name.size ≤ 1100
  ·have k1 : decide ((e.name.size : Int) ≤ 1100) = true := decide_eq_true (by omega)
   by_cases h2 : e.text.size ≤ 1100
   ·have k2 : decide ((e.text.size : Int) ≤ 1100) = true := decide_eq_true (by omega)
    exact M55
   ·have k2 : decide ((e.text.size : Int) ≤ 1100) = false := decide_eq_false (by omega)
    exact M55
  ·have k1 : decide ((e.name.size : Int) ≤ 1100) = false := decide_eq_false (by omega)
   exact M55) : p := h
end Q385
theorem M383 {p : Prop} (h : p := by
 obtain ⟨W0, hW0⟩ : ∃ W0, W0 = w.alloc (.cells (evCells e vk vn vf vs A m c) 71) := ⟨_, rfl⟩
 have hb0 : Below w.heap.size w W0 := by rw [hW0]; exact (Below.refl _ _).alloc (Nat.le_refl _) _
 have hx0 : EBox W0 w.heap.size (evCells e vk vn vf vs A m c) := by rw [hW0]; exact box_ev ..
 exact Y383) : p := h
set_option maxRecDepth 100000 in
theorem efew_any (e : EV) (hf : FieldsOk e) (lo hi : Nat) (vk vn : Int) (vf : Nat) (vs : ByteArray) (A : Option Addr) (m c : Nat) (w : World) (hv : Rep w lo hi e.v (vCells vk vn vf vs A m c)) (hz : hi ≤ w.heap.size) :
  Calls Tryz.prog 28 #[.agg (evCells e vk vn vf vs A m c)] w fun r w' => r = .returned (.bool (efew e)) ∧ Below w.heap.size w w' := by
 open Q385 in exact M383

structure BT where mk ::
 flow : ByteArray
 at' : Nat
 es : List EV

structure BtsIn (w : World) (A : Option Addr) (cap : Nat) (bl : List BT) : Prop where
 le : bl.length ≤ cap
 cap_le : cap ≤ maxLen
 at_ : 0 < bl.length → ∃ b off, A = some ⟨b, off, none⟩ ∧ b < w.heap.size ∧ ∀ i (h : i < bl.length), ∃ A' c', bl[i].flow.size ≤ maxLen ∧ bl[i].at' < 18446744073709551616 ∧ EvsIn w A' c' bl[i].es ∧
  w.cell? ⟨b, off + i * 3, none⟩ = some (.string bl[i].flow) ∧ w.cell? ⟨b, off + i * 3 + 1, none⟩ = some (.int .u64 bl[i].at') ∧ w.cell? ⟨b, off + i * 3 + 2, none⟩ = some (.slice A' bl[i].es.length c')
theorem BtsIn.later {w w' : World} {A : Option Addr} {cap : Nat} {bl : List BT} (h : BtsIn w A cap bl) (hb : Below w.heap.size w w') : BtsIn w' A cap bl := ⟨h.le, h.cap_le, fun hp => by
 obtain ⟨b, off, hA, hlt, h3⟩ := h.at_ hp
 refine ⟨b, off, hA, Nat.lt_of_lt_of_le hlt hb.size, fun i hi => ?_⟩
 obtain ⟨A', c', h4, h5, h6, c0, c1, c2⟩ := h3 i hi
 have e : ∀ o, w'.cell? ⟨b, o, none⟩ = w.cell? ⟨b, o, none⟩ := fun o => hb.cell (p := ⟨b, o, none⟩) hlt
 exact ⟨A', c', h4, h5, h6.later hb, (e _).trans c0, (e _).trans c1, (e _).trans c2⟩⟩

def wsum (bl : List BT) : Nat := (bl.map fun b => min b.es.length 100).sum
structure FewB (bl : List BT) : Prop where
 len : bl.length ≤ 60
 sum : wsum bl ≤ 150
 flow : ∀ i (h : i < bl.length), bl[i].flow.size ≤ 300
 few : ∀ i (h : i < bl.length) k (hk : k < bl[i].es.length), efew bl[i].es[k] = true

theorem wsum_take (bl : List BT) (j : Nat) (h : j < bl.length) : wsum (bl.take (j + 1)) = wsum (bl.take j) + min bl[j].es.length 100 := by
 unfold wsum
 rw [List.take_succ_eq_append_getElem h, List.map_append, List.sum_append]; simp

def Few12Res (bl : List BT) (w : World) (r : Ending) (w' : World) : Prop := ∃ b, r = .returned (.bool b) ∧ (b = true → FewB bl) ∧ Below w.heap.size w w'
set_option maxRecDepth 100000 in
set_option maxHeartbeats 2000000 in
theorem few12_any (bl : List BT) (A : Option Addr) (cap : Nat) (w : World) (h : BtsIn w A cap bl) :
  Calls Tryz.prog 9 #[.slice A bl.length cap] w (Few12Res bl w) := by
 have hl := h.le
 have hc := h.cap_le
 simp only [maxLen] at hc
 have HK := Lib.hid h; clear h
 go_enter Tryz.func9, Tryz.ntmps9
 go_wp2_with fail
 go_loopw [2, 3, 4] (fun r n i wr => ∃ (j y : Nat), j ≤ bl.length ∧ i = .int .i64 j ∧ r = .bool false ∧ n = .int .i64 y ∧ y ≤ 150 ∧ y = wsum (bl.take j) ∧ (∀ i (h : i < bl.length), i < j → bl[i].flow.size ≤ 300 ∧ ∀ k (hk : k < bl[i].es.length), efew bl[i].es[k] = true) ∧ Below w.heap.size w wr) (fun _ _ i _ => bl.length - (intOf i).toNat)
 case atStart => exact ⟨0, 0, by omega, rfl, rfl, rfl, by omega, rfl, fun i _ h => absurd h (by omega), Below.refl _ _⟩
 case round =>
  obtain ⟨j, y, hj, rfl, rfl, rfl, hy, hys, hfew, hb⟩ := hrel
  have HF := Lib.hid hfew
  have HB := Lib.hid hb
  have HYS := Lib.hid hys
  clear hfew hb hys
  by_cases hlt : j < bl.length
  ·obtain ⟨b, off, rfl, hblt, h3⟩ := (HK.out.later HB.out).at_ (by omega)
   obtain ⟨A', c', hfl, hat, hes, d0, d1, d2⟩ := h3 j hlt
   have hle := hes.le
   have hcm := hes.cap_le
   simp only [maxLen] at hcm hfl
   have HES := Lib.hid fun W (hW : Below wr.heap.size wr W) => hes.later hW
   have HD := Lib.hid fun W (hW : Below wr.heap.size wr W) => (hW.cell (p := ⟨b, off + j * 3 + 2, none⟩) hblt).trans d2
   have HWT := Lib.hid (wsum_take bl j hlt)
   clear h3 hes
   obtain ⟨es, hes⟩ : ∃ es, es = bl[j].es := ⟨_, rfl⟩
   rw [← hes] at HES HD HWT d2 hle
   have HEE := Lib.hid hes
   clear hes
   generalize hn : es.length = n at *
   have HN := Lib.hid hn; clear hn
   generalize hff : bl[j].flow = ff at *
   have HSZ : Hid (bl[j].flow.size = ff.size) := Lib.hid (by rw [hff]); clear hff
   go_upto_region 6 with fail
   obtain ⟨z, hz⟩ : ∃ z : Int, z = (y : Int) + (if (100 : Int) < (n : Int) then (100 : Int) else (n : Int)) := ⟨_, rfl⟩
   have hz0 : z = ((y + min n 100 : Nat) : Int) := by rw [hz]; split <;> omega
   rw [← hz]
   have hzz : z ≤ 250 := by omega
   have hzp : 0 ≤ z := by omega
   have HZ := Lib.hid hz0
   clear hz hz0 d1
   generalize (if (100 : Int) < (n : Int) then (100 : Int) else (n : Int)) = mm at *
   by_cases hz4 : 150 < z
   ·have hb4 : decide (150 < z) = true := by simpa using hz4
    go_wp2_with fail
    go_ret
    exact ⟨false, rfl, (fun h => by cases h), HB.out⟩
   ·have hb4 : decide (150 < z) = false := by simpa using hz4
    by_cases hs4 : 300 < ff.size
    ·have hb5 : decide ((300 : Int) < (ff.size : Int)) = true := decide_eq_true (by omega)
     go_wp2_with fail
     go_ret
     exact ⟨false, rfl, (fun h => by cases h), HB.out⟩
    ·have hb5 : decide ((300 : Int) < (ff.size : Int)) = false := decide_eq_false (by omega)
     have HSZ4 := Lib.hid hs4
     have HZ4 := Lib.hid hz4
     have HBF := Lib.hid fun W (hW : Below wr.heap.size wr W) => HB.out.trans (hW.mono HB.out.size)
     have hzj : y ≤ 150 := hy
     go_wp2_with fail
     go_loopw [2, 5] (fun r i wi => ∃ (k : Nat), k ≤ n ∧ i = .int .i64 k ∧ r = .bool false ∧ (∀ q (hq : q < es.length), q < k → efew es[q] = true) ∧ Below wr.heap.size wr wi) (fun _ i _ => n - (intOf i).toNat)
     case atStart => exact ⟨0, by omega, rfl, rfl, fun q _ h => absurd h (by omega), Below.refl _ _⟩
     case round =>
      obtain ⟨k, hk, rfl, rfl, hall, hbi⟩ := hrel
      have HALL := Lib.hid hall; have HBI := Lib.hid hbi
      have hdd := HD.out _ hbi
      clear hall hbi
      by_cases hkl : k < n
      ·have hke : k < es.length := by have := HN.out; omega
       obtain ⟨b2, off2, lo, hi, vk, vn, vf, vs, A2, m2, c2, rfl, hbl2, hf, hv, hhi, e0, e1, e2, e3, e4, e5, e6, e7, e8, e9, e10⟩ := (HES.out _ HBI.out).get k hke
       have HC := Lib.hid (efew_any es[k] hf lo hi vk vn vf vs A2 m2 c2 _ hv hhi)
       unfold evCells at HC
       clear hf hv
       go_wp2_with fail
       refine HC.out.mono ?_
       rintro x w1 ⟨rfl, hb1⟩
       have HB1 := Lib.hid (HBI.out.trans (hb1.mono HBI.out.size))
       clear hb1 e0 e1 e2 e3 e4 e5 e6 e7 e8 e9 e10 HC
       cases hp : efew es[k] with
       | true =>
        have HP := Lib.hid hp; clear hp
        go_wp2_with fail
        go_roundw
        case rel => exact ⟨k + 1, by omega, by go_num, rfl, fun q h hm => by
         rcases Nat.lt_or_ge q k with z | z
         ·exact HALL.out q h z
         ·obtain rfl : q = k := by omega
          exact HP.out, HB1.out⟩
        case measure => simp [intOf]; omega
       | false =>
        have HP := Lib.hid hp; clear hp
        go_wp2_with fail
        go_ret
        exact ⟨false, rfl, (fun h => by cases h), HBF.out _ HB1.out⟩
      ·have hk' : k = n := by omega
       subst hk'
       have HFIN : Hid (∀ i (h : i < bl.length), i < j + 1 → bl[i].flow.size ≤ 300 ∧ ∀ k (hk : k < bl[i].es.length), efew bl[i].es[k] = true) := Lib.hid fun i h hij => by
        rcases Nat.lt_or_ge i j with z | z
        ·exact HF.out i h z
        ·obtain rfl : i = j := by omega
         refine ⟨by have := HSZ.out; have := HSZ4.out; omega, fun q hq => ?_⟩
         have hE := HEE.out
         have := HALL.out q (by rw [hE]; exact hq) (by have := HN.out; rw [hE] at this; omega)
         simp only [hE] at this
         exact this
       go_wp2_with fail
       exact ⟨⟨j + 1, y + min k 100, by omega, by go_num, rfl, by rw [HZ.out], by have := HZ.out; have := HZ4.out; omega, by rw [HWT.out, ← HYS.out], HFIN.out, HBF.out _ HBI.out⟩, by simp [intOf]; omega⟩
  ·have hj' : j = bl.length := by omega
   subst hj'
   rw [List.take_length] at HYS
   go_wp2_with fail
   go_ret
   exact ⟨decide (bl.length ≤ 60), ret_bool (decide_eq_decide.2 (by omega)), fun h => ⟨by simpa using h, by have := HYS.out; omega, fun i hi => (HF.out i hi hi).1, fun i hi => (HF.out i hi hi).2⟩, HB.out⟩
end Cn
end Go.Proofs.YtfmnacebgplpcaaGreat
namespace Go.Proofs.YtfmnacebgplpcaaGreat
namespace Hi
open Vt (VT)
open Ev (EV)

structure TK where mk ::
 id : Nat
 name : ByteArray
 v : VT
 n : Int
 fl : Bool
 at' : Nat
structure ST where mk ::
 tasks : List TK
 timers : List (Nat × Nat)
 keys : List ByteArray
 next : Nat
 closed : Int

def tget (l : List TK) (id : Nat) : Option TK := l.find? fun t => decide (t.id = id)
def tput (l : List TK) (t : TK) : List TK := l.map fun x => if x.id = t.id then t else x
def tdel (l : List TK) (id : Nat) : List TK := l.filter fun x => decide (x.id ≠ id)
def mget (l : List (Nat × Nat)) (id : Nat) : Option (Nat × Nat) := l.find? fun t => decide (t.1 = id)
def mdel (l : List (Nat × Nat)) (id : Nat) : List (Nat × Nat) := l.filter fun x => decide (x.1 ≠ id)
def hasK (l : List ByteArray) (k : ByteArray) : Bool := decide (k.size ≠ 0) && l.any fun x => decide (x = k)

def applyM (now : Nat) (alone : Bool) (e : EV) (s : ST) : Option ST :=
 if e.k = 2 then match tget s.tasks e.id with
  | some t => if t.fl = false ∧ t.n + 1 = e.n ∧ t.at' ≤ now ∧ now ≤ e.at' ∧ alone = true then some { s with tasks := tput s.tasks { t with n := e.n, at' := e.at', fl := true } } else none
  | none => none
 else if e.k = 3 ∨ e.k = 4 then match tget s.tasks e.id with
  | some t => if t.fl = true ∧ t.n = e.n then
    if e.at' = 0 then some { s with tasks := tdel s.tasks e.id }
    else if now ≤ e.at' ∧ alone = true then some { s with tasks := tput s.tasks { t with at' := e.at', fl := false } } else none
   else none
  | none => none
 else if e.k = 5 then match mget s.timers e.id with
  | some x => if x.2 ≤ now then some { s with timers := mdel s.timers e.id } else none
  | none => none
 else if e.k = 6 then if hasK s.keys e.text then none else some { s with keys := s.keys ++ [e.text] }
 else if e.k = 7 then if e.id = s.next then some { s with tasks := s.tasks ++ [⟨e.id, e.name, e.v, 0, false, now⟩], next := s.next + 1 } else none
 else if e.k = 8 then if e.id = s.next ∧ now ≤ e.at' then some { s with timers := s.timers ++ [(e.id, e.at')], next := s.next + 1 } else none
 else if 9 ≤ e.k then if alone = true then some { s with closed := e.k, tasks := [], timers := [] } else none
 else some s

def runM (now : Nat) : List EV → Bool → ST → Option ST
 | [], _, s => some s
 | e :: r, first, s => if decide (e.k ≤ 6) = first then (applyM now r.isEmpty e s).bind (runM now r false) else none

structure Fine (s : ST) : Prop where
 tasks : s.tasks.Pairwise fun a b => a.id < b.id
 below : ∀ t ∈ s.tasks, t.id < s.next
 timers : s.timers.Pairwise fun a b => a.1 < b.1
 belowT : ∀ t ∈ s.timers, t.1 < s.next
 pos : 0 < s.next
theorem tget_some {l : List TK} {id : Nat} {t : TK} (h : tget l id = some t) : t ∈ l ∧ t.id = id := by
 unfold tget at h
 have h1 := List.mem_of_find?_eq_some h
 have h2 := List.find?_some h
 exact ⟨h1, by simpa using h2⟩
theorem tget_none {l : List TK} {id : Nat} (h : tget l id = none) : ∀ t ∈ l, t.id ≠ id := by
 unfold tget at h
 rw [List.find?_eq_none] at h
 intro t ht
 simpa using h t ht
theorem tput_ids (l : List TK) (t : TK) : (tput l t).map (·.id) = l.map (·.id) := by
 unfold tput
 rw [List.map_map]
 refine List.map_congr_left fun x _ => ?_
 simp only [Function.comp]
 split
 ·rename_i h; exact h.symm
 ·rfl
theorem pair_ids {l : List TK} : l.Pairwise (fun a b => a.id < b.id) ↔ (l.map (·.id)).Pairwise (· < ·) := by rw [List.pairwise_map]
theorem fine_init : Fine ⟨[], [], [], 1, 0⟩ := ⟨List.Pairwise.nil, fun t h => by simp at h, List.Pairwise.nil, fun t h => by simp at h, by simp⟩
theorem fine_apply {now : Nat} {alone : Bool} {e : EV} {s s' : ST} (hf : Fine s) (h : applyM now alone e s = some s') : Fine s' := by
 have hput : ∀ t : TK, Fine { s with tasks := tput s.tasks t } := fun t => ⟨by rw [pair_ids, tput_ids, ← pair_ids]; exact hf.tasks, fun x hx => by
  have : x.id ∈ (tput s.tasks t).map (·.id) := List.mem_map_of_mem hx
  rw [tput_ids] at this
  obtain ⟨y, hy, e⟩ := List.mem_map.1 this
  rw [← e]; exact hf.below y hy, hf.timers, hf.belowT, hf.pos⟩
 have hdel : ∀ id, Fine { s with tasks := tdel s.tasks id } := fun id => ⟨hf.tasks.sublist (List.filter_sublist ..), fun x hx => hf.below x (List.mem_filter.1 hx).1, hf.timers, hf.belowT, hf.pos⟩
 unfold applyM at h
 split at h
 ·split at h
  ·split at h
   ·cases h; exact hput _
   ·cases h
  ·cases h
 ·split at h
  ·split at h
   ·split at h
    ·split at h
     ·cases h; exact hdel _
     ·split at h
      ·cases h; exact hput _
      ·cases h
    ·cases h
   ·cases h
  ·split at h
   ·split at h
    ·split at h
     ·cases h
      exact ⟨hf.tasks, hf.below, hf.timers.sublist (List.filter_sublist ..), fun x hx => hf.belowT x (List.mem_filter.1 hx).1, hf.pos⟩
     ·cases h
    ·cases h
   ·split at h
    ·split at h
     ·cases h
     ·cases h; exact ⟨hf.tasks, hf.below, hf.timers, hf.belowT, hf.pos⟩
    ·split at h
     ·split at h
      ·rename_i hid
       cases h
       refine ⟨List.pairwise_append.2 ⟨hf.tasks, List.pairwise_singleton .., fun a ha b hb => ?_⟩, fun x hx => ?_, hf.timers, fun x hx => Nat.lt_succ_of_lt (hf.belowT x hx), Nat.succ_pos _⟩
       ·rw [List.mem_singleton.1 hb]; show a.id < e.id; rw [hid]; exact hf.below a ha
       ·rcases List.mem_append.1 hx with q | q
        ·exact Nat.lt_succ_of_lt (hf.below x q)
        ·rw [List.mem_singleton.1 q]; show e.id < s.next + 1; omega
      ·cases h
     ·split at h
      ·split at h
       ·rename_i hid
        cases h
        refine ⟨hf.tasks, fun x hx => Nat.lt_succ_of_lt (hf.below x hx), List.pairwise_append.2 ⟨hf.timers, List.pairwise_singleton .., fun a ha b hb => ?_⟩, fun x hx => ?_, Nat.succ_pos _⟩
        ·rw [List.mem_singleton.1 hb]; show a.1 < e.id; rw [hid.1]; exact hf.belowT a ha
        ·rcases List.mem_append.1 hx with q | q
         ·exact Nat.lt_succ_of_lt (hf.belowT x q)
         ·rw [List.mem_singleton.1 q]; show e.id < s.next + 1; omega
       ·cases h
      ·split at h
       ·split at h
        ·cases h; exact ⟨List.Pairwise.nil, fun t h => by simp at h, List.Pairwise.nil, fun t h => by simp at h, hf.pos⟩
        ·cases h
       ·cases h; exact hf
end Hi
end Go.Proofs.YtfmnacebgplpcaaGreat
namespace Go.Proofs.YtfmnacebgplpcaaGreat
namespace Cn
open Nm (bitsW ret_int ret_bool)
open Vt (VT Rep BoxAt below_drew Cloned put5 KidsAt HeadOk)
open Ev (EV FieldsOk evCells vCells EBox ERep zeroT take_drop tk ap rd1 rd2 cons_drop)
open Cm (rowOf EvsIn EvsAt EvNew evsSame evSame rsev_any)

theorem evs_all {es es' : List EV} (h : es.length = es'.length) : evsSame es es' = (es.zip es').all (fun p => evSame p.1 p.2) := by simp [evsSame, h]

set_option maxRecDepth 100000 in
set_option maxHeartbeats 2000000 in
theorem rsameb_len (es es' : List EV) (hll : es'.length = es.length) (f : ByteArray) (at' : Nat) (A A' : Option Addr) (cap cap' : Nat) (w : World) (h : EvsIn w A cap es) (h' : EvsIn w A' cap' es') :
  Calls Tryz.prog 79 #[.agg #[.string f, .int .u64 at', .slice A es.length cap], .agg #[.string f, .int .u64 at', .slice A' es'.length cap']] w fun r w' => r = .returned (.bool (evsSame es es')) ∧ Below w.heap.size w w' := by
 have hl := h.le
 have hc := h.cap_le
 have hl' := h'.le
 have hc' := h'.cap_le
 simp only [maxLen] at hc hc'
 obtain ⟨W0, hW0⟩ : ∃ W0, W0 = (w.alloc (.cells #[.string f, .int .u64 at', .slice A es.length cap] 33)).alloc (.cells #[.string f, .int .u64 at', .slice A' es.length cap'] 33) := ⟨_, rfl⟩
 have hx0 : BB W0 w.heap.size f at' A es.length cap := by rw [hW0]; exact (heap_alloc_old _ _ (by simp)).trans (heap_alloc_new w _)
 have hx1 : BB W0 (w.heap.size + 1) f at' A' es.length cap' := by
  rw [hW0]
  have e := heap_alloc_new (w.alloc (.cells #[.string f, .int .u64 at', .slice A es.length cap] 33)) (.cells #[.string f, .int .u64 at', .slice A' es.length cap'] 33)
  rw [World.size_alloc] at e
  exact e
 have hb0 : Below w.heap.size w W0 := by rw [hW0]; exact (((Below.refl _ _).alloc (Nat.le_refl _) _).alloc (by simp) _)
 have hz0 : w.heap.size + 1 < W0.heap.size := by rw [hW0]; simp
 have HK := Lib.hid (h.later hb0); have HK' := Lib.hid (h'.later hb0); clear h h'
 have HLL := Lib.hid hll
 have HR : Hid (evsSame es es' = (es.zip es').all (fun p => evSame p.1 p.2)) := Lib.hid (evs_all hll.symm)
 have HX0 := Lib.hid hx0; have HX1 := Lib.hid hx1; have HB0 := Lib.hid hb0
 obtain ⟨c0, c1, c2, -⟩ := hx0.cells
 obtain ⟨q0, q1, q2, -⟩ := hx1.cells
 rw [HR.out, hll]
 rw [hll] at hl'
 replace hW0 := Lib.hid hW0
 clear hll HR hx0 hx1 hb0
 go_enter Tryz.func79, Tryz.ntmps79
 go_upto_region 1 with fail
 rw [← hW0.out]
 go_wp2_with fail
 clear c0 c1 c2 q0 q1 q2
 go_loopw [4, 5] (fun r i wr => ∃ (j : Nat), j ≤ es.length ∧ i = .int .i64 j ∧ r = .bool false ∧ ((es.zip es').take j).all (fun p => evSame p.1 p.2) = true ∧ Below W0.heap.size W0 wr) (fun _ i _ => es.length - (intOf i).toNat)
 case atStart => exact ⟨0, by omega, rfl, rfl, rfl, Below.refl _ _⟩
 case round =>
  obtain ⟨j, hj, rfl, rfl, hy, hb⟩ := hrel
  have HY := Lib.hid hy; clear hy
  have HB := Lib.hid hb; clear hb
  have HBW := Lib.hid fun W (hW : Below W0.heap.size W0 W) => HB0.out.trans (hW.mono HB0.out.size)
  obtain ⟨-, -, x2, -⟩ := (HX0.out.later HB.out (by omega)).cells
  obtain ⟨-, -, y2, -⟩ := (HX1.out.later HB.out hz0).cells
  by_cases hlt : j < es.length
  ·obtain ⟨b, off, lo, hi, vk, vn, vf, vs, A1, m, c, rfl, hblt, hf, hv, hz, d0, d1, d2, d3, d4, d5, d6, d7, d8, d9, d10⟩ := (HK.out.later HB.out).get j hlt
   obtain ⟨b', off', lo', hi', vk', vn', vf', vs', A1', m', c', rfl, hblt', hf', hv', hz', g0, g1, g2, g3, g4, g5, g6, g7, g8, g9, g10⟩ := (HK'.out.later HB.out).get j (by have := HLL.out; omega)
   have HS := Lib.hid (rsev_any es[j] (es'[j]'(by have := HLL.out; omega)) wr.drew lo hi lo' hi' _ _ ⟨hf, vk, vn, vf, vs, A1, m, c, rfl, hv.drew⟩ hz ⟨hf', vk', vn', vf', vs', A1', m', c', rfl, hv'.drew⟩ hz')
   clear hf hf' hv hv'
   unfold evCells at HS
   go_wp2_with fail
   go_still_tail 10, (by kernel_rfl)
   go_wp2_with fail
   refine HS.out.mono ?_
   rintro e w1 ⟨rfl, hb1⟩
   have hb1' : Below wr.heap.size wr w1 := (below_drew (Below.refl _ _)).trans hb1
   clear hb1
   have HB1 := Lib.hid (HB.out.trans (hb1'.mono HB.out.size))
   clear hb1' HS d0 d1 d2 d3 d4 d5 d6 d7 d8 d9 d10 g0 g1 g2 g3 g4 g5 g6 g7 g8 g9 g10
   have hzl : j < (es.zip es').length := by rw [List.length_zip, HLL.out]; simpa using hlt
   have hge : evSame ((es.zip es')[j]'hzl).1 ((es.zip es')[j]'hzl).2 = evSame es[j] (es'[j]'(by have := HLL.out; omega)) := by rw [List.getElem_zip]
   have HGE := Lib.hid hge; clear hge
   cases hp : evSame es[j] (es'[j]'(by have := HLL.out; omega)) with
   | true =>
    have HP := Lib.hid hp; clear hp
    go_wp2_with fail
    go_roundw
    case rel => exact ⟨j + 1, by omega, by go_num, rfl, by rw [Vt.all_take_succ _ _ _ hzl, HY.out, HGE.out, HP.out]; rfl, HB1.out⟩
    case measure => simp [intOf]; omega
   | false =>
    have HP := Lib.hid hp; clear hp
    go_wp2_with fail
    go_ret
    exact ⟨ret_bool (by rw [Vt.all_false _ _ j hzl (by rw [HGE.out]; exact HP.out)]), HBW.out _ HB1.out⟩
  ·have hj' : j = es.length := by omega
   have HJ := Lib.hid hj'
   clear hj'
   go_wp2_with fail
   go_ret
   have hall : (es.zip es').all (fun p => evSame p.1 p.2) = true := by
    have := HY.out
    rw [HJ.out, List.take_of_length_le (by rw [List.length_zip, HLL.out]; simp)] at this
    exact this
   exact ⟨ret_bool (by rw [hall]), HBW.out _ HB.out⟩
end Cn
end Go.Proofs.YtfmnacebgplpcaaGreat
