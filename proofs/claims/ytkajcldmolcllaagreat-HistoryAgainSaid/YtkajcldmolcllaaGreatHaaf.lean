/- Events and how they lie; contract of package event's Valid. -/
import Derived.Test.YtkajcldmolcllaaGreatHaac
import Derived.Test.YtkajcldmolcllaaGreatHaad
import Derived.Test.YtkajcldmolcllaaGreatHaae
import Derived.Deep.RegionHeld3
import Derived.Deep.Cut
import Derived.Deep.CutRange
set_option linter.unusedVariables false
set_option linter.unusedSimpArgs false
open Go.RowKit
namespace Go.Proofs.YtkajcldmolcllaaGreat
namespace Ev
open Nm (ret_int ret_bool)
open Vt (VT Rep BoxAt below_drew)

structure EV where mk ::
 k : Int
 id : Nat
 n : Int
 at' : Nat
 name : ByteArray
 text : ByteArray
 v : VT

structure FieldsOk (e : EV) : Prop where
 k0 : -9223372036854775808 ≤ e.k
 k1 : e.k ≤ 9223372036854775807
 i1 : e.id < 18446744073709551616
 n0 : -9223372036854775808 ≤ e.n
 n1 : e.n ≤ 9223372036854775807
 a1 : e.at' < 18446744073709551616
 s1 : e.name.size ≤ maxLen
 t1 : e.text.size ≤ maxLen

def evCells (e : EV) (vk vn : Int) (vf : Nat) (vs : ByteArray) (A : Option Addr) (m c : Nat) : Array Value :=
 #[.int .i64 e.k, .int .u64 e.id, .int .i64 e.n, .int .u64 e.at', .string e.name, .string e.text, .int .i64 vk, .int .i64 vn, .float .f64 vf, .string vs, .slice A m c]

def vCells (vk vn : Int) (vf : Nat) (vs : ByteArray) (A : Option Addr) (m c : Nat) : Value := .agg #[.int .i64 vk, .int .i64 vn, .float .f64 vf, .string vs, .slice A m c]

def ERep (w : World) (lo hi : Nat) (e : EV) (x : Value) : Prop := FieldsOk e ∧ ∃ vk vn vf vs A m c, x = .agg (evCells e vk vn vf vs A m c) ∧ Rep w lo hi e.v (vCells vk vn vf vs A m c)

def zeroT : VT := .mk 0 0 0 ⟨#[]⟩ []

def EBox (w : World) (g : Nat) (cs : Array Value) : Prop := w.heap[g]? = some (.cells cs 53 (0, 0))
theorem EBox.cells {w : World} {g : Nat} {a b c d e f h i j k l : Value} (r : EBox w g #[a, b, c, d, e, f, h, i, j, k, l]) :
  w.cell? ⟨g, 0, none⟩ = some a ∧ w.cell? ⟨g, 1, none⟩ = some b ∧ w.cell? ⟨g, 2, none⟩ = some c ∧ w.cell? ⟨g, 3, none⟩ = some d ∧ w.cell? ⟨g, 4, none⟩ = some e ∧ w.cell? ⟨g, 5, none⟩ = some f ∧ w.cell? ⟨g, 6, none⟩ = some h ∧ w.cell? ⟨g, 7, none⟩ = some i ∧ w.cell? ⟨g, 8, none⟩ = some j ∧ w.cell? ⟨g, 9, none⟩ = some k ∧ w.cell? ⟨g, 10, none⟩ = some l := by
 unfold EBox at r; simp [World.cell?, r]
theorem EBox.later {w w' : World} {g B : Nat} {cs : Array Value} (h : EBox w g cs) (hb : Below B w w') (hg : g < B) : EBox w' g cs := (hb.block g hg).trans h
theorem EBox.lt {w : World} {g : Nat} {cs : Array Value} (r : EBox w g cs) : g < w.heap.size := (Array.getElem?_eq_some_iff.1 r).1

def pickB (b f z : Bool) : Bool := if b = true then f else z
def goodL (e : EV) (b0 b1 b2 b3 b4 b5 : Bool) : List Bool :=
 [pickB b0 (decide (0 < e.id)) ((e.id : Int) == 0), pickB b1 (decide (1 ≤ e.n ∧ e.n ≤ 2147483647)) (e.n == 0), pickB b2 (decide (e.at' ≤ 9223372036854775807)) ((e.at' : Int) == 0),
 pickB b3 (!e.name.toList.isEmpty && decide (e.name.size ≤ 1000)) e.name.toList.isEmpty, pickB b4 (decide (e.text.size ≤ 1000)) e.text.toList.isEmpty, pickB b5 (e.v.valid 8) (e.v.same zeroT)]

theorem ix0 (x0 x1 x2 x3 x4 x5 : Value) (w : World) : (Instr.index 120 (.agg #[x0, x1, x2, x3, x4, x5]) (.int .i64 0)).run Tryz.prog w = .ok x0 w := by kernel_rfl
theorem ix1 (x0 x1 x2 x3 x4 x5 : Value) (w : World) : (Instr.index 120 (.agg #[x0, x1, x2, x3, x4, x5]) (.int .i64 1)).run Tryz.prog w = .ok x1 w := by kernel_rfl
theorem ix2 (x0 x1 x2 x3 x4 x5 : Value) (w : World) : (Instr.index 120 (.agg #[x0, x1, x2, x3, x4, x5]) (.int .i64 2)).run Tryz.prog w = .ok x2 w := by kernel_rfl
theorem ix3 (x0 x1 x2 x3 x4 x5 : Value) (w : World) : (Instr.index 120 (.agg #[x0, x1, x2, x3, x4, x5]) (.int .i64 3)).run Tryz.prog w = .ok x3 w := by kernel_rfl
theorem ix4 (x0 x1 x2 x3 x4 x5 : Value) (w : World) : (Instr.index 120 (.agg #[x0, x1, x2, x3, x4, x5]) (.int .i64 4)).run Tryz.prog w = .ok x4 w := by kernel_rfl
theorem ix5 (x0 x1 x2 x3 x4 x5 : Value) (w : World) : (Instr.index 120 (.agg #[x0, x1, x2, x3, x4, x5]) (.int .i64 5)).run Tryz.prog w = .ok x5 w := by kernel_rfl

section
variable {P : Program} {ops : Array Oper} {Q : Exit → Act → World → Prop} {md : Region.Mode} {S : World → Prop}
theorem drop_get {i : Nat} {oi : Oper} {rest : List Oper} (hi : ops.toList.drop i = oi :: rest) : ops[i]? = some oi := by
 have h : (ops.toList.drop i)[0]? = some oi := by rw [hi]; rfl
 rw [List.getElem?_drop] at h
 simpa using h
theorem take_drop {i : Nat} {oi : Oper} {rest : List Oper} {v : Value} {fuel : Nat} {listed : Array Bool} {a : Act} {w : World} (hi : ops.toList.drop i = oi :: rest)
  (hs : Region.noSelect ops = true) (hf : Region.free md ops listed i = true) (hr : (Region.ready md ops listed).contains i = true)
  (hQ : ∀ c a w, Q (.panic c) (a.put oi.dst v) w → Q (.panic c) a w) (hy : YieldsIf P ops S oi v a) (hS : S w)
  (h : wpAnyH P md ops Q S fuel (listed.setIfInBounds i true) (a.put oi.dst v) w) : wpAnyH P md ops Q S (fuel + 1) listed a w :=
 wpAnyH_take (drop_get hi) hs hf hr hQ hy hS h
theorem tk (i : Nat) {oi : Oper} {rest : List Oper} {v : Value} {fuel : Nat} {listed : Array Bool} {a : Act} {w : World} (hi : ops.toList.drop i = oi :: rest)
  (h : wpAnyH P md ops Q S fuel (listed.setIfInBounds i true) (a.put oi.dst v) w)
  (hy : YieldsIf P ops S oi v a := by first | exact Or.inl ⟨by rfl, by intro w hSw; (try dsimp only at hSw); go_simp; try with_reducible rfl⟩ | exact Or.inr ⟨by rfl, rfl⟩)
  (hs : Region.noSelect ops = true := by kernel_rfl) (hf : Region.free md ops listed i = true := by kernel_rfl) (hr : (Region.ready md ops listed).contains i = true := by kernel_rfl)
  (hQ : ∀ c a w, Q (.panic c) (a.put oi.dst v) w → Q (.panic c) a w := by exact fun _ _ _ h => h) (hS : S w := by assumption) : wpAnyH P md ops Q S (fuel + 1) listed a w := take_drop hi hs hf hr hQ hy hS h
theorem ap : (∀ (a : Act) (d : Tmp) (v : Value), a.put (some d) v = { a with tmps := a.tmps.setIfInBounds d v }) ∧ (∀ (a : Act) (v : Value), a.put none v = a) ∧ (∀ (l : List Value) (i : Nat) (x : Value), l.toArray.setIfInBounds i x = (l.set i x).toArray) ∧ (∀ (a b : Value) (l : List Value), (a :: l).set 0 b = b :: l) ∧ (∀ (a b : Value) (l : List Value) (n : Nat), (a :: l).set (n + 1) b = a :: l.set n b) :=
 ⟨fun _ _ _ => rfl, fun _ _ => rfl, fun _ _ _ => List.setIfInBounds_toArray .., fun _ _ _ => rfl, fun _ _ _ _ => rfl⟩
theorem cons_drop {fuel : Nat} {listed : Array Bool} {a : Act} {w : World} {i : Nat} {o : Oper} {rest : List Oper} {rs : List Nat} (ho : ops.toList.drop i = o :: rest)
  (h : ∀ K' : Act → World → Prop, Shut (∀ a w, S w → (S w → wpAnyH P md ops Q S fuel (listed.setIfInBounds i true) a w) → K' a w) → if Region.wanted o (yielded ops a.tmps) = true then Oper.wp P o a w K' Q else K' (a.put o.dst undef) w)
  (hs : AllReadyH P md ops Q S fuel listed a w rs) : AllReadyH P md ops Q S fuel listed a w (i :: rs) := AllReadyH.cons (drop_get ho) h hs
end

theorem six_cells {w : World} {g : Nat} {t : TypeId} {a b c d e f : Value} (h : w.heap[g]? = some (.cells #[a, b, c, d, e, f] t (0, 0))) :
  w.cell? ⟨g, 0, none⟩ = some a ∧ w.cell? ⟨g, 1, none⟩ = some b ∧ w.cell? ⟨g, 2, none⟩ = some c ∧ w.cell? ⟨g, 3, none⟩ = some d ∧ w.cell? ⟨g, 4, none⟩ = some e ∧ w.cell? ⟨g, 5, none⟩ = some f ∧
   w.frozen? ⟨g, 0, none⟩ = false ∧ w.frozen? ⟨g, 1, none⟩ = false ∧ w.frozen? ⟨g, 2, none⟩ = false ∧ w.frozen? ⟨g, 3, none⟩ = false ∧ w.frozen? ⟨g, 4, none⟩ = false ∧ w.frozen? ⟨g, 5, none⟩ = false := by
 simp [World.cell?, World.frozen?, h]
theorem six_row {w : World} {g : Nat} {t : TypeId} {a b c d e f : Value} (h : w.heap[g]? = some (.cells #[a, b, c, d, e, f] t (0, 0))) (a' b' c' d' e' f' : Value) :
  ((((((w.setCell ⟨g, 0, none⟩ a').setCell ⟨g, 1, none⟩ b').setCell ⟨g, 2, none⟩ c').setCell ⟨g, 3, none⟩ d').setCell ⟨g, 4, none⟩ e').setCell ⟨g, 5, none⟩ f').heap[g]? = some (.cells #[a', b', c', d', e', f'] t (0, 0)) := by
 simp [World.setCell, Array.getElem?_modify, h]
theorem six_below {B : Nat} {w w' : World} (h : Below B w w') (a b c d e f : Value) :
  Below B w ((((((w'.setCell ⟨B, 0, none⟩ a).setCell ⟨B, 1, none⟩ b).setCell ⟨B, 2, none⟩ c).setCell ⟨B, 3, none⟩ d).setCell ⟨B, 4, none⟩ e).setCell ⟨B, 5, none⟩ f) :=
 (((((h.setCell (p := ⟨B, 0, none⟩) (Nat.le_refl _) _).setCell (p := ⟨B, 1, none⟩) (Nat.le_refl _) _).setCell (p := ⟨B, 2, none⟩) (Nat.le_refl _) _).setCell (p := ⟨B, 3, none⟩) (Nat.le_refl _) _).setCell (p := ⟨B, 4, none⟩) (Nat.le_refl _) _).setCell (p := ⟨B, 5, none⟩) (Nat.le_refl _) _

set_option maxRecDepth 100000 in
set_option maxHeartbeats 4000000 in
theorem evalid_walk (e : EV) (hf : FieldsOk e) (vk vn : Int) (vf : Nat) (vs : ByteArray) (A : Option Addr) (m c : Nat) (nm : ByteArray) (b0 b1 b2 b3 b4 b5 ok RR : Bool) (hRR : RR = (ok && (goodL e b0 b1 b2 b3 b4 b5).all (fun b : Bool => b)))
  (w : World) (lo hi : Nat) (hR : Rep w lo hi e.v (vCells vk vn vf vs A m c)) (hz : hi ≤ w.heap.size)
  (ho : ∀ w, Calls Tryz.prog 69 #[.int .i64 e.k] w fun x w' => x = .returned (.tuple #[.agg #[.string nm, .bool b0, .bool b1, .bool b2, .bool b3, .bool b4, .bool b5], .bool ok]) ∧ Below w.heap.size w w') :
  Calls Tryz.prog 48 #[.agg (evCells e vk vn vf vs A m c)] w fun x w' => x = .returned (.bool RR) ∧ Below w.heap.size w w' := by
 have O := Lib.hid ho; clear ho
 obtain ⟨k0, k1, i1, n0, n1, a1, s1, t1⟩ := hf
 unfold evCells
 unfold goodL at hRR
 have HRR := Lib.hid hRR; clear hRR
 generalize e.k = k at *
 generalize e.id = id at *
 generalize e.n = n at *
 generalize e.at' = at' at *
 generalize e.name = name at *
 generalize e.text = text at *
 generalize e.v = t at *
 unfold maxLen at s1 t1
 unfold vCells at hR
 have HR := Lib.hid hR; clear hR
 have HBX : Hid (EBox (w.alloc (.cells #[.int .i64 k, .int .u64 id, .int .i64 n, .int .u64 at', .string name, .string text, .int .i64 vk, .int .i64 vn, .float .f64 vf, .string vs, .slice A m c] 53)) w.heap.size #[.int .i64 k, .int .u64 id, .int .i64 n, .int .u64 at', .string name, .string text, .int .i64 vk, .int .i64 vn, .float .f64 vf, .string vs, .slice A m c]) := Lib.hid (heap_alloc_new w _)
 have HB0 := Lib.hid ((Below.refl w.heap.size w).alloc (Nat.le_refl _) (.cells #[.int .i64 k, .int .u64 id, .int .i64 n, .int .u64 at', .string name, .string text, .int .i64 vk, .int .i64 vn, .float .f64 vf, .string vs, .slice A m c] 53))
 go_enter Tryz.func48, Tryz.ntmps48
 go_wp2_with fail
 refine (O.out _).mono ?_
 rintro x w1 ⟨rfl, hb1⟩
 have hbx := HBX.out.later hb1 (by simp)
 have HB1 := Lib.hid (HB0.out.trans (hb1.mono (by simp)))
 have hz1 := hbx.lt
 clear hb1 HBX HB0
 obtain ⟨c0, c1, c2, c3, c4, c5, c6, c7, c8, c9, c10⟩ := hbx.cells
 have HBX := Lib.hid hbx; clear hbx
 go_wp2_with fail
 have hqr : (w1.alloc (.cells #[.string nm, .bool b0, .bool b1, .bool b2, .bool b3, .bool b4, .bool b5] 122)).heap[w1.heap.size]? = _ := heap_alloc_new w1 _
 have HBQ := Lib.hid ((Below.refl w1.heap.size w1).alloc (Nat.le_refl _) (.cells #[.string nm, .bool b0, .bool b1, .bool b2, .bool b3, .bool b4, .bool b5] 122))
 have hqz : w1.heap.size < (w1.alloc (.cells #[.string nm, .bool b0, .bool b1, .bool b2, .bool b3, .bool b4, .bool b5] 122)).heap.size := by simp
 generalize w1.alloc (.cells #[.string nm, .bool b0, .bool b1, .bool b2, .bool b3, .bool b4, .bool b5] 122) = wq at *
 have HQR := Lib.hid hqr; clear hqr
 have hq0 : w.heap.size < wq.heap.size := by omega
 have hbxq := HBX.out.later HBQ.out hz1
 clear c0 c1 c2 c3 c4 c5 c6 c7 c8 c9 c10 HBX
 obtain ⟨q0, q1, q2, q3, q4, q5, q6, q7, q8, q9, q10⟩ := hbxq.cells
 have HBX := Lib.hid hbxq; clear hbxq
 have HRQ : Hid (∀ W', Below wq.heap.size wq W' → Rep W' lo hi t (.agg #[.int .i64 vk, .int .i64 vn, .float .f64 vf, .string vs, .slice A m c])) := Lib.hid fun W' hb =>
  ((HR.out.later (HB1.out.mono hz)).later (HBQ.out.mono (by omega))).later (hb.mono (by omega))
 have H9 : Hid (∀ W', Below wq.heap.size wq W' → Calls Tryz.prog 70 #[.agg #[.int .i64 vk, .int .i64 vn, .float .f64 vf, .string vs, .slice A m c], .agg #[.int .i64 0, .int .i64 0, .float .f64 0, .string ⟨#[]⟩, .slice none 0 0]] W' fun e w' => e = .returned (.bool (t.same zeroT)) ∧ Below W'.heap.size W' w') := Lib.hid fun W' hb =>
  Vt.same_any t zeroT W' lo hi 0 0 _ _ (HRQ.out W' hb) (by have := hb.size; omega) (Rep.leaf ⟨by omega, by omega, by omega, by omega, by omega, by decide, by decide⟩) (Nat.zero_le _)
 have H9a := Lib.hid (H9.out wq.drew (below_drew (Below.refl _ _)))
 have H9b := Lib.hid (H9.out (wq.alloc (.cells #[.bool false, .bool false, .bool false, .bool false, .bool false, .bool false] 120)).drew (below_drew ((Below.refl _ _).alloc (Nat.le_refl _) _)))
 have KB : Hid (∀ w5, Below (wq.alloc (.cells #[.bool false, .bool false, .bool false, .bool false, .bool false, .bool false] 120)).drew.heap.size (wq.alloc (.cells #[.bool false, .bool false, .bool false, .bool false, .bool false, .bool false] 120)).drew w5 →
   Below wq.heap.size wq w5 ∧ w5.heap[wq.heap.size]? = some (.cells #[.bool false, .bool false, .bool false, .bool false, .bool false, .bool false] 120 (0, 0)) ∧ wq.heap.size < w5.heap.size) := Lib.hid fun w5 hb => by
  have hb' : Below (wq.heap.size + 1) (wq.alloc (.cells #[.bool false, .bool false, .bool false, .bool false, .bool false, .bool false] 120)).drew w5 := hb.mono (by show wq.heap.size + 1 ≤ (wq.alloc _).heap.size; rw [World.size_alloc]; exact Nat.le_refl _)
  have h0 : (wq.alloc (.cells #[.bool false, .bool false, .bool false, .bool false, .bool false, .bool false] 120)).drew.heap[wq.heap.size]? = some (.cells #[.bool false, .bool false, .bool false, .bool false, .bool false, .bool false] 120 (0, 0)) := heap_alloc_new wq _
  have h1 := (hb'.block wq.heap.size (Nat.lt_succ_self _)).trans h0
  exact ⟨(below_drew ((Below.refl _ _).alloc (Nat.le_refl _) _)).trans (hb'.mono (Nat.le_succ _)), h1, (Array.getElem?_eq_some_iff.1 h1).1⟩
 have KS : Hid (∀ W', Below wq.heap.size wq W' → W'.cell? ⟨w.heap.size, 1, none⟩ = some (.int .u64 id) ∧ W'.cell? ⟨w.heap.size, 2, none⟩ = some (.int .i64 n) ∧ W'.cell? ⟨w.heap.size, 3, none⟩ = some (.int .u64 at') ∧ W'.cell? ⟨w.heap.size, 4, none⟩ = some (.string name) ∧ W'.cell? ⟨w.heap.size, 5, none⟩ = some (.string text) ∧ W'.cell? ⟨w.heap.size, 6, none⟩ = some (.int .i64 vk) ∧ W'.cell? ⟨w.heap.size, 7, none⟩ = some (.int .i64 vn) ∧ W'.cell? ⟨w.heap.size, 8, none⟩ = some (.float .f64 vf) ∧ W'.cell? ⟨w.heap.size, 9, none⟩ = some (.string vs) ∧ W'.cell? ⟨w.heap.size, 10, none⟩ = some (.slice A m c)) := Lib.hid fun W' hb => by
  have e1 : ∀ o, W'.cell? ⟨w.heap.size, o, none⟩ = wq.cell? ⟨w.heap.size, o, none⟩ := fun o => hb.cell (p := ⟨w.heap.size, o, none⟩) hq0
  exact ⟨(e1 _).trans q1, (e1 _).trans q2, (e1 _).trans q3, (e1 _).trans q4, (e1 _).trans q5, (e1 _).trans q6, (e1 _).trans q7, (e1 _).trans q8, (e1 _).trans q9, (e1 _).trans q10⟩
 have KD := Lib.hid (KS.out wq.drew (below_drew (Below.refl _ _)))
 have KA := Lib.hid (KS.out (wq.alloc (.cells #[.bool false, .bool false, .bool false, .bool false, .bool false, .bool false] 120)).drew (below_drew ((Below.refl _ _).alloc (Nat.le_refl _) _)))
 clear q0 q1 q2 q3 q4 q5 q6 q7 q8 q9 q10
 go_cut [5] from 15 to 34 (fun z wx => ∃ bz, z = .pointer (some ⟨bz, 0, none⟩) ∧ wx.heap[bz]? = some (.cells #[.bool ((id : Int) == 0), .bool (n == 0), .bool ((at' : Int) == 0), .bool name.toList.isEmpty, .bool text.toList.isEmpty, .bool (t.same zeroT)] 120 (0, 0)) ∧ wq.heap.size ≤ bz ∧ Below wq.heap.size wq wx)
 case first =>
  go_region_held3 (fun W' => W'.cell? ⟨w.heap.size, 1, none⟩ = some (.int .u64 id) ∧ W'.cell? ⟨w.heap.size, 2, none⟩ = some (.int .i64 n) ∧ W'.cell? ⟨w.heap.size, 3, none⟩ = some (.int .u64 at') ∧ W'.cell? ⟨w.heap.size, 4, none⟩ = some (.string name) ∧ W'.cell? ⟨w.heap.size, 5, none⟩ = some (.string text) ∧ W'.cell? ⟨w.heap.size, 6, none⟩ = some (.int .i64 vk) ∧ W'.cell? ⟨w.heap.size, 7, none⟩ = some (.int .i64 vn) ∧ W'.cell? ⟨w.heap.size, 8, none⟩ = some (.float .f64 vf) ∧ W'.cell? ⟨w.heap.size, 9, none⟩ = some (.string vs) ∧ W'.cell? ⟨w.heap.size, 10, none⟩ = some (.slice A m c))
   (first
    | (with_reducible exact KS.out _ hq5)
    | (with_reducible exact KS.out _ (six_below hq5 _ _ _ _ _ _))
    | (with_reducible exact KS.out _ (Below.alloc hq5 hz5 _))
    | (with_reducible exact KD.out)
    | (with_reducible exact KA.out))
   (first
    | (go_at_call 70; (with_reducible refine H9a.out.mono ?_); rintro e w5 ⟨rfl, hb9⟩; have hq5 : Below wq.heap.size wq w5 := Below.trans (below_drew (Below.refl _ _)) hb9; have hz5 := hq5.size; clear hb9)
    | (go_at_call 70; (with_reducible refine H9b.out.mono ?_); rintro e w5 ⟨rfl, hb9⟩; obtain ⟨hq5, hrow9, hlt9⟩ := KB.out w5 hb9; have hz5 := hq5.size; obtain ⟨x0, x1, x2, x3, x4, x5, y0, y1, y2, y3, y4, y5⟩ := six_cells hrow9; have HROW9 := Lib.hid hrow9; clear hrow9 hb9))
  all_goals
   go_wp2_with fail
   go_meet
   case rel =>
    first
     | exact ⟨_, rfl, six_row HROW9.out _ _ _ _ _ _, Nat.le_refl _, six_below hq5 _ _ _ _ _ _⟩
     | exact ⟨_, rfl, heap_alloc_new w5 _, hz5, hq5.alloc hz5 _⟩
 case rest =>
  obtain ⟨bz, rfl, hzrow, hbz, hbx⟩ := hcut
  clear H9 H9a H9b KB KD KA KS
  go_wp2_with fail
  obtain ⟨wz, hwz⟩ : ∃ wz, wz = wc := ⟨_, rfl⟩
  subst hwz
  have hwz0 : w.heap.size < wz.heap.size := by have := hbx.size; omega
  have hbxc := HBX.out.later hbx hq0
  obtain ⟨q0, q1, q2, q3, q4, q5, q6, q7, q8, q9, q10⟩ := hbxc.cells
  have HBXC := Lib.hid hbxc
  have HRC : Hid (∀ W', Below wz.heap.size wz W' → Rep W' lo hi t (.agg #[.int .i64 vk, .int .i64 vn, .float .f64 vf, .string vs, .slice A m c])) := Lib.hid fun W' hb =>
   HRQ.out W' (hbx.trans (hb.mono hbx.size))
  have hbzc : bz < wz.heap.size := (Array.getElem?_eq_some_iff.1 hzrow).1
  have HZROW := Lib.hid hzrow; have HBXX := Lib.hid hbx
  clear hbxc hzrow hbx
  have H9 : Hid (∀ W', Below wz.heap.size wz W' → Calls Tryz.prog 71 #[.agg #[.int .i64 vk, .int .i64 vn, .float .f64 vf, .string vs, .slice A m c]] W' fun e w' => e = .returned (.bool (t.valid 8)) ∧ Below W'.heap.size W' w') := Lib.hid fun W' hb =>
   Vt.valid_any t W' lo hi _ (HRC.out W' hb) (by have := hb.size; omega)
  have H9a := Lib.hid (H9.out wz.drew (below_drew (Below.refl _ _)))
  have H9b := Lib.hid (H9.out (wz.alloc (.cells #[.bool false, .bool false, .bool false, .bool false, .bool false, .bool false] 120)).drew (below_drew ((Below.refl _ _).alloc (Nat.le_refl _) _)))
  have KB : Hid (∀ w7, Below (wz.alloc (.cells #[.bool false, .bool false, .bool false, .bool false, .bool false, .bool false] 120)).drew.heap.size (wz.alloc (.cells #[.bool false, .bool false, .bool false, .bool false, .bool false, .bool false] 120)).drew w7 →
    Below wz.heap.size wz w7 ∧ w7.heap[wz.heap.size]? = some (.cells #[.bool false, .bool false, .bool false, .bool false, .bool false, .bool false] 120 (0, 0)) ∧ wz.heap.size < w7.heap.size) := Lib.hid fun w7 hb => by
   have hb' : Below (wz.heap.size + 1) (wz.alloc (.cells #[.bool false, .bool false, .bool false, .bool false, .bool false, .bool false] 120)).drew w7 := hb.mono (by show wz.heap.size + 1 ≤ (wz.alloc _).heap.size; rw [World.size_alloc]; exact Nat.le_refl _)
   have h0 : (wz.alloc (.cells #[.bool false, .bool false, .bool false, .bool false, .bool false, .bool false] 120)).drew.heap[wz.heap.size]? = some (.cells #[.bool false, .bool false, .bool false, .bool false, .bool false, .bool false] 120 (0, 0)) := heap_alloc_new wz _
   have h1 := (hb'.block wz.heap.size (Nat.lt_succ_self _)).trans h0
   exact ⟨(below_drew ((Below.refl _ _).alloc (Nat.le_refl _) _)).trans (hb'.mono (Nat.le_succ _)), h1, (Array.getElem?_eq_some_iff.1 h1).1⟩
  have KS : Hid (∀ W', Below wz.heap.size wz W' → W'.cell? ⟨w.heap.size, 1, none⟩ = some (.int .u64 id) ∧ W'.cell? ⟨w.heap.size, 2, none⟩ = some (.int .i64 n) ∧ W'.cell? ⟨w.heap.size, 3, none⟩ = some (.int .u64 at') ∧ W'.cell? ⟨w.heap.size, 4, none⟩ = some (.string name) ∧ W'.cell? ⟨w.heap.size, 5, none⟩ = some (.string text) ∧ W'.cell? ⟨w.heap.size, 6, none⟩ = some (.int .i64 vk) ∧ W'.cell? ⟨w.heap.size, 7, none⟩ = some (.int .i64 vn) ∧ W'.cell? ⟨w.heap.size, 8, none⟩ = some (.float .f64 vf) ∧ W'.cell? ⟨w.heap.size, 9, none⟩ = some (.string vs) ∧ W'.cell? ⟨w.heap.size, 10, none⟩ = some (.slice A m c)) := Lib.hid fun W' hb => by
   have e1 : ∀ o, W'.cell? ⟨w.heap.size, o, none⟩ = wz.cell? ⟨w.heap.size, o, none⟩ := fun o => hb.cell (p := ⟨w.heap.size, o, none⟩) hwz0
   exact ⟨(e1 _).trans q1, (e1 _).trans q2, (e1 _).trans q3, (e1 _).trans q4, (e1 _).trans q5, (e1 _).trans q6, (e1 _).trans q7, (e1 _).trans q8, (e1 _).trans q9, (e1 _).trans q10⟩
  have KD := Lib.hid (KS.out wz.drew (below_drew (Below.refl _ _)))
  have KA := Lib.hid (KS.out (wz.alloc (.cells #[.bool false, .bool false, .bool false, .bool false, .bool false, .bool false] 120)).drew (below_drew ((Below.refl _ _).alloc (Nat.le_refl _) _)))
  clear q0 q1 q2 q3 q4 q5 q6 q7 q8 q9 q10
  go_cut [6] from 35 to 65 (fun z wx => ∃ by', z = .pointer (some ⟨by', 0, none⟩) ∧ wx.heap[by']? = some (.cells #[.bool (decide (0 < id)), .bool (decide (1 ≤ n ∧ n ≤ 2147483647)), .bool (decide (at' ≤ 9223372036854775807)), .bool (!name.toList.isEmpty && decide (name.size ≤ 1000)), .bool (decide (text.size ≤ 1000)), .bool (t.valid 8)] 120 (0, 0)) ∧ wz.heap.size ≤ by' ∧ Below wz.heap.size wz wx)
  case first =>
   by_cases hn : 1 ≤ n
   ·have hnb : decide (1 ≤ n) = true := by simpa using hn
    by_cases hnm : name.toList = []
    ·have tok := trivial
     refine wp_region_noPanic ?_
     refine wp_region_held_drew (S := (fun W' => W'.cell? ⟨w.heap.size, 1, none⟩ = some (.int .u64 id) ∧ W'.cell? ⟨w.heap.size, 2, none⟩ = some (.int .i64 n) ∧ W'.cell? ⟨w.heap.size, 3, none⟩ = some (.int .u64 at') ∧ W'.cell? ⟨w.heap.size, 4, none⟩ = some (.string name) ∧ W'.cell? ⟨w.heap.size, 5, none⟩ = some (.string text) ∧ W'.cell? ⟨w.heap.size, 6, none⟩ = some (.int .i64 vk) ∧ W'.cell? ⟨w.heap.size, 7, none⟩ = some (.int .i64 vn) ∧ W'.cell? ⟨w.heap.size, 8, none⟩ = some (.float .f64 vf) ∧ W'.cell? ⟨w.heap.size, 9, none⟩ = some (.string vs) ∧ W'.cell? ⟨w.heap.size, 10, none⟩ = some (.slice A m c))) (by kernel_rfl) ?_ (fun hHeld => ?_)
     ·exact KD.out
     refine tk 0 rfl ?_
     try simp only [ap]
     refine tk 1 rfl ?_
     try simp only [ap]
     refine tk 2 rfl ?_
     try simp only [ap]
     refine tk 3 rfl ?_
     try simp only [ap]
     refine tk 4 rfl ?_
     try simp only [ap]
     refine tk 5 rfl ?_
     try simp only [ap]
     refine tk 6 rfl ?_
     try simp only [ap]
     refine tk 7 rfl ?_
     try simp only [ap]
     refine tk 8 rfl ?_
     try simp only [ap]
     refine tk 9 rfl ?_
     try simp only [ap]
     refine tk 10 rfl ?_
     try simp only [ap]
     refine tk 11 rfl ?_
     try simp only [ap]
     refine tk 12 rfl ?_
     try simp only [ap]
     refine tk 13 rfl ?_
     try simp only [ap]
     refine tk 14 rfl ?_
     try simp only [ap]
     refine tk 15 rfl ?_
     try simp only [ap]
     refine tk 16 rfl ?_
     try simp only [ap]
     refine tk 17 rfl ?_
     try simp only [ap]
     refine tk 18 rfl ?_
     try simp only [ap]
     refine tk 19 rfl ?_
     try simp only [ap]
     refine tk 20 rfl ?_
     try simp only [ap]
     refine tk 21 rfl ?_
     try simp only [ap]
     refine tk 22 rfl ?_
     try simp only [ap]
     refine tk 23 rfl ?_
     try simp only [ap]
     refine tk 24 rfl ?_
     try simp only [ap]
     refine tk 25 rfl ?_
     try simp only [ap]
     refine tk 26 rfl ?_
     try simp only [ap]
     refine tk 27 rfl ?_
     try simp only [ap]
     refine tk 28 rfl ?_
     try simp only [ap]
     refine wpAnyH_ready (rs := [29, 31]) (by kernel_rfl) (by simp) ?_
     refine cons_drop rfl (fun K hK => ?_) ?_
     ·go_simp
      (with_reducible refine H9a.out.mono ?_)
      rintro e w7 ⟨rfl, hb9⟩
      have hq5 : Below wz.heap.size wz w7 := Below.trans (below_drew (Below.refl _ _)) hb9
      have hz5 := hq5.size
      clear hb9
      go_wp2_with fail
      refine hK.out _ _ (KS.out _ hq5) (fun hHeld2 => ?_)
      clear hK K hHeld
      try simp only [ap]
      refine tk 30 rfl ?_
      try simp only [ap]
      refine wpAnyH_ready (rs := [31]) (by kernel_rfl) (by simp) ?_
      refine cons_drop rfl (fun K hK => ?_) AllReadyH.nil
      go_simp
      refine hK.out _ _ (KS.out _ (Below.alloc hq5 hz5 _)) (fun hHeld3 => ?_)
      clear hK K hHeld2
      try simp only [ap]
      refine wpAnyH_ready (rs := [32]) (by kernel_rfl) (by simp) ?_
      refine cons_drop rfl (fun K hK => ?_) AllReadyH.nil
      go_simp
      refine hK.out _ _ (KS.out _ (Below.alloc hq5 hz5 _)) (fun hHeld4 => ?_)
      clear hK K hHeld3
      try simp only [ap]
      refine wpAnyH_done (by kernel_rfl) ?_ _
      refine NoPanic.normal ?_
      go_wp2_with fail
      go_meet
      case rel => exact ⟨_, rfl, (heap_alloc_new w7 _).trans (by simp [*]; first | done | omega), hz5, hq5.alloc hz5 _⟩
     ·refine cons_drop rfl (fun K hK => ?_) AllReadyH.nil
      go_simp
      refine hK.out _ _ KA.out (fun hHeld2 => ?_)
      clear hK K hHeld
      try simp only [ap]
      refine wpAnyH_ready (rs := [29]) (by kernel_rfl) (by simp) ?_
      refine cons_drop rfl (fun K hK => ?_) AllReadyH.nil
      go_simp
      (with_reducible refine H9b.out.mono ?_)
      rintro e w7 ⟨rfl, hb9⟩
      obtain ⟨hq5, hrow9, hlt9⟩ := KB.out w7 hb9
      have hz5 := hq5.size
      obtain ⟨x0, x1, x2, x3, x4, x5, y0, y1, y2, y3, y4, y5⟩ := six_cells hrow9
      have HROW9 := Lib.hid hrow9
      clear hrow9 hb9
      go_wp2_with fail
      refine hK.out _ _ (KS.out _ hq5) (fun hHeld3 => ?_)
      clear hK K hHeld2
      try simp only [ap]
      refine tk 30 rfl ?_
      try simp only [ap]
      refine wpAnyH_ready (rs := [32]) (by kernel_rfl) (by simp) ?_
      refine cons_drop rfl (fun K hK => ?_) AllReadyH.nil
      go_simp
      refine hK.out _ _ (KS.out _ (six_below hq5 _ _ _ _ _ _)) (fun hHeld4 => ?_)
      clear hK K hHeld3
      try simp only [ap]
      refine wpAnyH_done (by kernel_rfl) ?_ _
      refine NoPanic.normal ?_
      go_wp2_with fail
      go_meet
      case rel => exact ⟨_, rfl, (six_row HROW9.out _ _ _ _ _ _).trans (by simp [*]; first | done | omega), Nat.le_refl _, six_below hq5 _ _ _ _ _ _⟩
    ·have hnm2 : name.toList.isEmpty = false := by simpa using hnm
     refine wp_region_noPanic ?_
     refine wp_region_held_drew (S := (fun W' => W'.cell? ⟨w.heap.size, 1, none⟩ = some (.int .u64 id) ∧ W'.cell? ⟨w.heap.size, 2, none⟩ = some (.int .i64 n) ∧ W'.cell? ⟨w.heap.size, 3, none⟩ = some (.int .u64 at') ∧ W'.cell? ⟨w.heap.size, 4, none⟩ = some (.string name) ∧ W'.cell? ⟨w.heap.size, 5, none⟩ = some (.string text) ∧ W'.cell? ⟨w.heap.size, 6, none⟩ = some (.int .i64 vk) ∧ W'.cell? ⟨w.heap.size, 7, none⟩ = some (.int .i64 vn) ∧ W'.cell? ⟨w.heap.size, 8, none⟩ = some (.float .f64 vf) ∧ W'.cell? ⟨w.heap.size, 9, none⟩ = some (.string vs) ∧ W'.cell? ⟨w.heap.size, 10, none⟩ = some (.slice A m c))) (by kernel_rfl) ?_ (fun hHeld => ?_)
     ·exact KD.out
     refine tk 0 rfl ?_
     try simp only [ap]
     refine tk 1 rfl ?_
     try simp only [ap]
     refine tk 2 rfl ?_
     try simp only [ap]
     refine tk 3 rfl ?_
     try simp only [ap]
     refine tk 4 rfl ?_
     try simp only [ap]
     refine tk 5 rfl ?_
     try simp only [ap]
     refine tk 6 rfl ?_
     try simp only [ap]
     refine tk 7 rfl ?_
     try simp only [ap]
     refine tk 8 rfl ?_
     try simp only [ap]
     refine tk 9 rfl ?_
     try simp only [ap]
     refine tk 10 rfl ?_
     try simp only [ap]
     refine tk 11 rfl ?_
     try simp only [ap]
     refine tk 12 rfl ?_
     try simp only [ap]
     refine tk 13 rfl ?_
     try simp only [ap]
     refine tk 14 rfl ?_
     try simp only [ap]
     refine tk 15 rfl ?_
     try simp only [ap]
     refine tk 16 rfl ?_
     try simp only [ap]
     refine tk 17 rfl ?_
     try simp only [ap]
     refine tk 18 rfl ?_
     try simp only [ap]
     refine tk 19 rfl ?_
     try simp only [ap]
     refine tk 20 rfl ?_
     try simp only [ap]
     refine tk 21 rfl ?_
     try simp only [ap]
     refine tk 22 rfl ?_
     try simp only [ap]
     refine tk 23 rfl ?_
     try simp only [ap]
     refine tk 24 rfl ?_
     try simp only [ap]
     refine tk 25 rfl ?_
     try simp only [ap]
     refine tk 26 rfl ?_
     try simp only [ap]
     refine tk 27 rfl ?_
     try simp only [ap]
     refine tk 28 rfl ?_
     try simp only [ap]
     refine wpAnyH_ready (rs := [29, 31]) (by kernel_rfl) (by simp) ?_
     refine cons_drop rfl (fun K hK => ?_) ?_
     ·go_simp
      (with_reducible refine H9a.out.mono ?_)
      rintro e w7 ⟨rfl, hb9⟩
      have hq5 : Below wz.heap.size wz w7 := Below.trans (below_drew (Below.refl _ _)) hb9
      have hz5 := hq5.size
      clear hb9
      go_wp2_with fail
      refine hK.out _ _ (KS.out _ hq5) (fun hHeld2 => ?_)
      clear hK K hHeld
      try simp only [ap]
      refine tk 30 rfl ?_
      try simp only [ap]
      refine wpAnyH_ready (rs := [31]) (by kernel_rfl) (by simp) ?_
      refine cons_drop rfl (fun K hK => ?_) AllReadyH.nil
      go_simp
      refine hK.out _ _ (KS.out _ (Below.alloc hq5 hz5 _)) (fun hHeld3 => ?_)
      clear hK K hHeld2
      try simp only [ap]
      refine wpAnyH_ready (rs := [32]) (by kernel_rfl) (by simp) ?_
      refine cons_drop rfl (fun K hK => ?_) AllReadyH.nil
      go_simp
      refine hK.out _ _ (KS.out _ (Below.alloc hq5 hz5 _)) (fun hHeld4 => ?_)
      clear hK K hHeld3
      try simp only [ap]
      refine wpAnyH_done (by kernel_rfl) ?_ _
      refine NoPanic.normal ?_
      go_wp2_with fail
      go_meet
      case rel => exact ⟨_, rfl, (heap_alloc_new w7 _).trans (by simp [*]; first | done | omega), hz5, hq5.alloc hz5 _⟩
     ·refine cons_drop rfl (fun K hK => ?_) AllReadyH.nil
      go_simp
      refine hK.out _ _ KA.out (fun hHeld2 => ?_)
      clear hK K hHeld
      try simp only [ap]
      refine wpAnyH_ready (rs := [29]) (by kernel_rfl) (by simp) ?_
      refine cons_drop rfl (fun K hK => ?_) AllReadyH.nil
      go_simp
      (with_reducible refine H9b.out.mono ?_)
      rintro e w7 ⟨rfl, hb9⟩
      obtain ⟨hq5, hrow9, hlt9⟩ := KB.out w7 hb9
      have hz5 := hq5.size
      obtain ⟨x0, x1, x2, x3, x4, x5, y0, y1, y2, y3, y4, y5⟩ := six_cells hrow9
      have HROW9 := Lib.hid hrow9
      clear hrow9 hb9
      go_wp2_with fail
      refine hK.out _ _ (KS.out _ hq5) (fun hHeld3 => ?_)
      clear hK K hHeld2
      try simp only [ap]
      refine tk 30 rfl ?_
      try simp only [ap]
      refine wpAnyH_ready (rs := [32]) (by kernel_rfl) (by simp) ?_
      refine cons_drop rfl (fun K hK => ?_) AllReadyH.nil
      go_simp
      refine hK.out _ _ (KS.out _ (six_below hq5 _ _ _ _ _ _)) (fun hHeld4 => ?_)
      clear hK K hHeld3
      try simp only [ap]
      refine wpAnyH_done (by kernel_rfl) ?_ _
      refine NoPanic.normal ?_
      go_wp2_with fail
      go_meet
      case rel => exact ⟨_, rfl, (six_row HROW9.out _ _ _ _ _ _).trans (by simp [*]; first | done | omega), Nat.le_refl _, six_below hq5 _ _ _ _ _ _⟩
   ·have hnb : decide (1 ≤ n) = false := by simpa using hn
    by_cases hnm : name.toList = []
    ·have tok := trivial
     refine wp_region_noPanic ?_
     refine wp_region_held_drew (S := (fun W' => W'.cell? ⟨w.heap.size, 1, none⟩ = some (.int .u64 id) ∧ W'.cell? ⟨w.heap.size, 2, none⟩ = some (.int .i64 n) ∧ W'.cell? ⟨w.heap.size, 3, none⟩ = some (.int .u64 at') ∧ W'.cell? ⟨w.heap.size, 4, none⟩ = some (.string name) ∧ W'.cell? ⟨w.heap.size, 5, none⟩ = some (.string text) ∧ W'.cell? ⟨w.heap.size, 6, none⟩ = some (.int .i64 vk) ∧ W'.cell? ⟨w.heap.size, 7, none⟩ = some (.int .i64 vn) ∧ W'.cell? ⟨w.heap.size, 8, none⟩ = some (.float .f64 vf) ∧ W'.cell? ⟨w.heap.size, 9, none⟩ = some (.string vs) ∧ W'.cell? ⟨w.heap.size, 10, none⟩ = some (.slice A m c))) (by kernel_rfl) ?_ (fun hHeld => ?_)
     ·exact KD.out
     refine tk 0 rfl ?_
     try simp only [ap]
     refine tk 1 rfl ?_
     try simp only [ap]
     refine tk 2 rfl ?_
     try simp only [ap]
     refine tk 3 rfl ?_
     try simp only [ap]
     refine tk 4 rfl ?_
     try simp only [ap]
     refine tk 5 rfl ?_
     try simp only [ap]
     refine tk 6 rfl ?_
     try simp only [ap]
     refine tk 7 rfl ?_
     try simp only [ap]
     refine tk 8 rfl ?_
     try simp only [ap]
     refine tk 9 rfl ?_
     try simp only [ap]
     refine tk 10 rfl ?_
     try simp only [ap]
     refine tk 11 rfl ?_
     try simp only [ap]
     refine tk 12 rfl ?_
     try simp only [ap]
     refine tk 13 rfl ?_
     try simp only [ap]
     refine tk 14 rfl ?_
     try simp only [ap]
     refine tk 15 rfl ?_
     try simp only [ap]
     refine tk 16 rfl ?_
     try simp only [ap]
     refine tk 17 rfl ?_
     try simp only [ap]
     refine tk 18 rfl ?_
     try simp only [ap]
     refine tk 19 rfl ?_
     try simp only [ap]
     refine tk 20 rfl ?_
     try simp only [ap]
     refine tk 21 rfl ?_
     try simp only [ap]
     refine tk 22 rfl ?_
     try simp only [ap]
     refine tk 23 rfl ?_
     try simp only [ap]
     refine tk 24 rfl ?_
     try simp only [ap]
     refine tk 25 rfl ?_
     try simp only [ap]
     refine tk 26 rfl ?_
     try simp only [ap]
     refine tk 27 rfl ?_
     try simp only [ap]
     refine tk 28 rfl ?_
     try simp only [ap]
     refine wpAnyH_ready (rs := [29, 31]) (by kernel_rfl) (by simp) ?_
     refine cons_drop rfl (fun K hK => ?_) ?_
     ·go_simp
      (with_reducible refine H9a.out.mono ?_)
      rintro e w7 ⟨rfl, hb9⟩
      have hq5 : Below wz.heap.size wz w7 := Below.trans (below_drew (Below.refl _ _)) hb9
      have hz5 := hq5.size
      clear hb9
      go_wp2_with fail
      refine hK.out _ _ (KS.out _ hq5) (fun hHeld2 => ?_)
      clear hK K hHeld
      try simp only [ap]
      refine tk 30 rfl ?_
      try simp only [ap]
      refine wpAnyH_ready (rs := [31]) (by kernel_rfl) (by simp) ?_
      refine cons_drop rfl (fun K hK => ?_) AllReadyH.nil
      go_simp
      refine hK.out _ _ (KS.out _ (Below.alloc hq5 hz5 _)) (fun hHeld3 => ?_)
      clear hK K hHeld2
      try simp only [ap]
      refine wpAnyH_ready (rs := [32]) (by kernel_rfl) (by simp) ?_
      refine cons_drop rfl (fun K hK => ?_) AllReadyH.nil
      go_simp
      refine hK.out _ _ (KS.out _ (Below.alloc hq5 hz5 _)) (fun hHeld4 => ?_)
      clear hK K hHeld3
      try simp only [ap]
      refine wpAnyH_done (by kernel_rfl) ?_ _
      refine NoPanic.normal ?_
      go_wp2_with fail
      go_meet
      case rel => exact ⟨_, rfl, (heap_alloc_new w7 _).trans (by simp [*]; first | done | omega), hz5, hq5.alloc hz5 _⟩
     ·refine cons_drop rfl (fun K hK => ?_) AllReadyH.nil
      go_simp
      refine hK.out _ _ KA.out (fun hHeld2 => ?_)
      clear hK K hHeld
      try simp only [ap]
      refine wpAnyH_ready (rs := [29]) (by kernel_rfl) (by simp) ?_
      refine cons_drop rfl (fun K hK => ?_) AllReadyH.nil
      go_simp
      (with_reducible refine H9b.out.mono ?_)
      rintro e w7 ⟨rfl, hb9⟩
      obtain ⟨hq5, hrow9, hlt9⟩ := KB.out w7 hb9
      have hz5 := hq5.size
      obtain ⟨x0, x1, x2, x3, x4, x5, y0, y1, y2, y3, y4, y5⟩ := six_cells hrow9
      have HROW9 := Lib.hid hrow9
      clear hrow9 hb9
      go_wp2_with fail
      refine hK.out _ _ (KS.out _ hq5) (fun hHeld3 => ?_)
      clear hK K hHeld2
      try simp only [ap]
      refine tk 30 rfl ?_
      try simp only [ap]
      refine wpAnyH_ready (rs := [32]) (by kernel_rfl) (by simp) ?_
      refine cons_drop rfl (fun K hK => ?_) AllReadyH.nil
      go_simp
      refine hK.out _ _ (KS.out _ (six_below hq5 _ _ _ _ _ _)) (fun hHeld4 => ?_)
      clear hK K hHeld3
      try simp only [ap]
      refine wpAnyH_done (by kernel_rfl) ?_ _
      refine NoPanic.normal ?_
      go_wp2_with fail
      go_meet
      case rel => exact ⟨_, rfl, (six_row HROW9.out _ _ _ _ _ _).trans (by simp [*]; first | done | omega), Nat.le_refl _, six_below hq5 _ _ _ _ _ _⟩
    ·have hnm2 : name.toList.isEmpty = false := by simpa using hnm
     refine wp_region_noPanic ?_
     refine wp_region_held_drew (S := (fun W' => W'.cell? ⟨w.heap.size, 1, none⟩ = some (.int .u64 id) ∧ W'.cell? ⟨w.heap.size, 2, none⟩ = some (.int .i64 n) ∧ W'.cell? ⟨w.heap.size, 3, none⟩ = some (.int .u64 at') ∧ W'.cell? ⟨w.heap.size, 4, none⟩ = some (.string name) ∧ W'.cell? ⟨w.heap.size, 5, none⟩ = some (.string text) ∧ W'.cell? ⟨w.heap.size, 6, none⟩ = some (.int .i64 vk) ∧ W'.cell? ⟨w.heap.size, 7, none⟩ = some (.int .i64 vn) ∧ W'.cell? ⟨w.heap.size, 8, none⟩ = some (.float .f64 vf) ∧ W'.cell? ⟨w.heap.size, 9, none⟩ = some (.string vs) ∧ W'.cell? ⟨w.heap.size, 10, none⟩ = some (.slice A m c))) (by kernel_rfl) ?_ (fun hHeld => ?_)
     ·exact KD.out
     refine tk 0 rfl ?_
     try simp only [ap]
     refine tk 1 rfl ?_
     try simp only [ap]
     refine tk 2 rfl ?_
     try simp only [ap]
     refine tk 3 rfl ?_
     try simp only [ap]
     refine tk 4 rfl ?_
     try simp only [ap]
     refine tk 5 rfl ?_
     try simp only [ap]
     refine tk 6 rfl ?_
     try simp only [ap]
     refine tk 7 rfl ?_
     try simp only [ap]
     refine tk 8 rfl ?_
     try simp only [ap]
     refine tk 9 rfl ?_
     try simp only [ap]
     refine tk 10 rfl ?_
     try simp only [ap]
     refine tk 11 rfl ?_
     try simp only [ap]
     refine tk 12 rfl ?_
     try simp only [ap]
     refine tk 13 rfl ?_
     try simp only [ap]
     refine tk 14 rfl ?_
     try simp only [ap]
     refine tk 15 rfl ?_
     try simp only [ap]
     refine tk 16 rfl ?_
     try simp only [ap]
     refine tk 17 rfl ?_
     try simp only [ap]
     refine tk 18 rfl ?_
     try simp only [ap]
     refine tk 19 rfl ?_
     try simp only [ap]
     refine tk 20 rfl ?_
     try simp only [ap]
     refine tk 21 rfl ?_
     try simp only [ap]
     refine tk 22 rfl ?_
     try simp only [ap]
     refine tk 23 rfl ?_
     try simp only [ap]
     refine tk 24 rfl ?_
     try simp only [ap]
     refine tk 25 rfl ?_
     try simp only [ap]
     refine tk 26 rfl ?_
     try simp only [ap]
     refine tk 27 rfl ?_
     try simp only [ap]
     refine tk 28 rfl ?_
     try simp only [ap]
     refine wpAnyH_ready (rs := [29, 31]) (by kernel_rfl) (by simp) ?_
     refine cons_drop rfl (fun K hK => ?_) ?_
     ·go_simp
      (with_reducible refine H9a.out.mono ?_)
      rintro e w7 ⟨rfl, hb9⟩
      have hq5 : Below wz.heap.size wz w7 := Below.trans (below_drew (Below.refl _ _)) hb9
      have hz5 := hq5.size
      clear hb9
      go_wp2_with fail
      refine hK.out _ _ (KS.out _ hq5) (fun hHeld2 => ?_)
      clear hK K hHeld
      try simp only [ap]
      refine tk 30 rfl ?_
      try simp only [ap]
      refine wpAnyH_ready (rs := [31]) (by kernel_rfl) (by simp) ?_
      refine cons_drop rfl (fun K hK => ?_) AllReadyH.nil
      go_simp
      refine hK.out _ _ (KS.out _ (Below.alloc hq5 hz5 _)) (fun hHeld3 => ?_)
      clear hK K hHeld2
      try simp only [ap]
      refine wpAnyH_ready (rs := [32]) (by kernel_rfl) (by simp) ?_
      refine cons_drop rfl (fun K hK => ?_) AllReadyH.nil
      go_simp
      refine hK.out _ _ (KS.out _ (Below.alloc hq5 hz5 _)) (fun hHeld4 => ?_)
      clear hK K hHeld3
      try simp only [ap]
      refine wpAnyH_done (by kernel_rfl) ?_ _
      refine NoPanic.normal ?_
      go_wp2_with fail
      go_meet
      case rel => exact ⟨_, rfl, (heap_alloc_new w7 _).trans (by simp [*]; first | done | omega), hz5, hq5.alloc hz5 _⟩
     ·refine cons_drop rfl (fun K hK => ?_) AllReadyH.nil
      go_simp
      refine hK.out _ _ KA.out (fun hHeld2 => ?_)
      clear hK K hHeld
      try simp only [ap]
      refine wpAnyH_ready (rs := [29]) (by kernel_rfl) (by simp) ?_
      refine cons_drop rfl (fun K hK => ?_) AllReadyH.nil
      go_simp
      (with_reducible refine H9b.out.mono ?_)
      rintro e w7 ⟨rfl, hb9⟩
      obtain ⟨hq5, hrow9, hlt9⟩ := KB.out w7 hb9
      have hz5 := hq5.size
      obtain ⟨x0, x1, x2, x3, x4, x5, y0, y1, y2, y3, y4, y5⟩ := six_cells hrow9
      have HROW9 := Lib.hid hrow9
      clear hrow9 hb9
      go_wp2_with fail
      refine hK.out _ _ (KS.out _ hq5) (fun hHeld3 => ?_)
      clear hK K hHeld2
      try simp only [ap]
      refine tk 30 rfl ?_
      try simp only [ap]
      refine wpAnyH_ready (rs := [32]) (by kernel_rfl) (by simp) ?_
      refine cons_drop rfl (fun K hK => ?_) AllReadyH.nil
      go_simp
      refine hK.out _ _ (KS.out _ (six_below hq5 _ _ _ _ _ _)) (fun hHeld4 => ?_)
      clear hK K hHeld3
      try simp only [ap]
      refine wpAnyH_done (by kernel_rfl) ?_ _
      refine NoPanic.normal ?_
      go_wp2_with fail
      go_meet
      case rel => exact ⟨_, rfl, (six_row HROW9.out _ _ _ _ _ _).trans (by simp [*]; first | done | omega), Nat.le_refl _, six_below hq5 _ _ _ _ _ _⟩
  case rest =>
   obtain ⟨by', rfl, hfrow, hby, hbx⟩ := hcut
   clear H9 H9a H9b KB KD KA KS HRC HRQ HR HBXC HBX O
   have hrowc : wc.heap[w1.heap.size]? = _ := ((HBXX.out.trans (hbx.mono HBXX.out.size)).block w1.heap.size hqz).trans HQR.out
   have hzrowc := (hbx.block bz hbzc).trans HZROW.out
   have hbw : Below w.heap.size w wc := (HB1.out.trans (HBQ.out.mono (by omega))).trans ((HBXX.out.trans (hbx.mono HBXX.out.size)).mono (by omega))
   have HBW := Lib.hid hbw
   clear hbw hbx HBXX HZROW HQR HBQ HB1
   generalize decide (0 < id) = f0 at *
   generalize decide (1 ≤ n ∧ n ≤ 2147483647) = f1 at *
   generalize decide (at' ≤ 9223372036854775807) = f2 at *
   generalize (!name.toList.isEmpty && decide (name.size ≤ 1000)) = f3 at *
   generalize decide (text.size ≤ 1000) = f4 at *
   generalize t.valid 8 = f5 at *
   generalize ((id : Int) == 0) = z0 at *
   generalize (n == 0) = z1 at *
   generalize ((at' : Int) == 0) = z2 at *
   generalize name.toList.isEmpty = z3 at *
   generalize text.toList.isEmpty = z4 at *
   generalize t.same zeroT = z5 at *
   obtain ⟨a0, a1, a2, a3, a4, a5, -⟩ := six_cells hzrowc
   obtain ⟨g0, g1, g2, g3, g4, g5, -⟩ := six_cells hfrow
   obtain ⟨r0, r1, r2, r3, r4, r5, r6⟩ := RowAt.cells (show RowAt wc w1.heap.size _ from hrowc)
   clear hzrowc hfrow hrowc
   go_wp2_with fail
   go_loop [2, 68] (fun r i => ∃ j : Int, 0 ≤ j ∧ j ≤ 6 ∧ i = .int .i64 j ∧ r = .bool false ∧ ([pickB b0 f0 z0, pickB b1 f1 z1, pickB b2 f2 z2, pickB b3 f3 z3, pickB b4 f4 z4, pickB b5 f5 z5].take j.toNat).all (fun b : Bool => b) = true) (fun _ i => 6 - (intOf i).toNat)
   case atStart => exact ⟨0, by omega, by omega, rfl, rfl, rfl⟩
   case round =>
    obtain ⟨j, hj0, hj, rfl, rfl, hy⟩ := hrel
    have HY := Lib.hid hy; clear hy
    rcases (by omega : j = 0 ∨ j = 1 ∨ j = 2 ∨ j = 3 ∨ j = 4 ∨ j = 5 ∨ j = 6) with rfl | rfl | rfl | rfl | rfl | rfl | rfl
    ·have hix := ix0 (.bool b0) (.bool b1) (.bool b2) (.bool b3) (.bool b4) (.bool b5)
     cases b0
     ·cases z0
      ·go_wp2_with fail
       go_ret
       exact ⟨ret_bool (by rw [HRR.out]; simp [pickB]), HBW.out⟩
      ·go_wp2_with fail
       go_round
       case rel => exact ⟨1, by omega, by omega, rfl, rfl, by have := HY.out; simp [pickB] at this ⊢; try exact this⟩
       case measure => simp [intOf]
     ·cases f0
      ·go_wp2_with fail
       go_ret
       exact ⟨ret_bool (by rw [HRR.out]; simp [pickB]), HBW.out⟩
      ·go_wp2_with fail
       go_round
       case rel => exact ⟨1, by omega, by omega, rfl, rfl, by have := HY.out; simp [pickB] at this ⊢; try exact this⟩
       case measure => simp [intOf]
    ·have hix := ix1 (.bool b0) (.bool b1) (.bool b2) (.bool b3) (.bool b4) (.bool b5)
     cases b1
     ·cases z1
      ·go_wp2_with fail
       go_ret
       exact ⟨ret_bool (by rw [HRR.out]; simp [pickB]), HBW.out⟩
      ·go_wp2_with fail
       go_round
       case rel => exact ⟨2, by omega, by omega, rfl, rfl, by have := HY.out; simp [pickB] at this ⊢; try exact this⟩
       case measure => simp [intOf]
     ·cases f1
      ·go_wp2_with fail
       go_ret
       exact ⟨ret_bool (by rw [HRR.out]; simp [pickB]), HBW.out⟩
      ·go_wp2_with fail
       go_round
       case rel => exact ⟨2, by omega, by omega, rfl, rfl, by have := HY.out; simp [pickB] at this ⊢; try exact this⟩
       case measure => simp [intOf]
    ·have hix := ix2 (.bool b0) (.bool b1) (.bool b2) (.bool b3) (.bool b4) (.bool b5)
     cases b2
     ·cases z2
      ·go_wp2_with fail
       go_ret
       exact ⟨ret_bool (by rw [HRR.out]; simp [pickB]), HBW.out⟩
      ·go_wp2_with fail
       go_round
       case rel => exact ⟨3, by omega, by omega, rfl, rfl, by have := HY.out; simp [pickB] at this ⊢; try exact this⟩
       case measure => simp [intOf]
     ·cases f2
      ·go_wp2_with fail
       go_ret
       exact ⟨ret_bool (by rw [HRR.out]; simp [pickB]), HBW.out⟩
      ·go_wp2_with fail
       go_round
       case rel => exact ⟨3, by omega, by omega, rfl, rfl, by have := HY.out; simp [pickB] at this ⊢; try exact this⟩
       case measure => simp [intOf]
    ·have hix := ix3 (.bool b0) (.bool b1) (.bool b2) (.bool b3) (.bool b4) (.bool b5)
     cases b3
     ·cases z3
      ·go_wp2_with fail
       go_ret
       exact ⟨ret_bool (by rw [HRR.out]; simp [pickB]), HBW.out⟩
      ·go_wp2_with fail
       go_round
       case rel => exact ⟨4, by omega, by omega, rfl, rfl, by have := HY.out; simp [pickB] at this ⊢; try exact this⟩
       case measure => simp [intOf]
     ·cases f3
      ·go_wp2_with fail
       go_ret
       exact ⟨ret_bool (by rw [HRR.out]; simp [pickB]), HBW.out⟩
      ·go_wp2_with fail
       go_round
       case rel => exact ⟨4, by omega, by omega, rfl, rfl, by have := HY.out; simp [pickB] at this ⊢; try exact this⟩
       case measure => simp [intOf]
    ·have hix := ix4 (.bool b0) (.bool b1) (.bool b2) (.bool b3) (.bool b4) (.bool b5)
     cases b4
     ·cases z4
      ·go_wp2_with fail
       go_ret
       exact ⟨ret_bool (by rw [HRR.out]; simp [pickB]), HBW.out⟩
      ·go_wp2_with fail
       go_round
       case rel => exact ⟨5, by omega, by omega, rfl, rfl, by have := HY.out; simp [pickB] at this ⊢; try exact this⟩
       case measure => simp [intOf]
     ·cases f4
      ·go_wp2_with fail
       go_ret
       exact ⟨ret_bool (by rw [HRR.out]; simp [pickB]), HBW.out⟩
      ·go_wp2_with fail
       go_round
       case rel => exact ⟨5, by omega, by omega, rfl, rfl, by have := HY.out; simp [pickB] at this ⊢; try exact this⟩
       case measure => simp [intOf]
    ·have hix := ix5 (.bool b0) (.bool b1) (.bool b2) (.bool b3) (.bool b4) (.bool b5)
     cases b5
     ·cases z5
      ·go_wp2_with fail
       go_ret
       exact ⟨ret_bool (by rw [HRR.out]; simp [pickB]), HBW.out⟩
      ·go_wp2_with fail
       go_round
       case rel => exact ⟨6, by omega, by omega, rfl, rfl, by have := HY.out; simp [pickB] at this ⊢; try exact this⟩
       case measure => simp [intOf]
     ·cases f5
      ·go_wp2_with fail
       go_ret
       exact ⟨ret_bool (by rw [HRR.out]; simp [pickB]), HBW.out⟩
      ·go_wp2_with fail
       go_round
       case rel => exact ⟨6, by omega, by omega, rfl, rfl, by have := HY.out; simp [pickB] at this ⊢; try exact this⟩
       case measure => simp [intOf]
    ·go_wp2_with fail
     go_ret
     exact ⟨ret_bool (by have := HY.out; rw [HRR.out]; rw [show ([pickB b0 f0 z0, pickB b1 f1 z1, pickB b2 f2 z2, pickB b3 f3 z3, pickB b4 f4 z4, pickB b5 f5 z5].take (6 : Int).toNat) = [pickB b0 f0 z0, pickB b1 f1 z1, pickB b2 f2 z2, pickB b3 f3 z3, pickB b4 f4 z4, pickB b5 f5 z5] from rfl] at this; rw [this]; simp), HBW.out⟩

def EV.valid (e : EV) : Bool := decide (1 ≤ e.k ∧ e.k ≤ 11) && (goodL e ((fieldsOf e.k.toNat).contains 0) ((fieldsOf e.k.toNat).contains 1) ((fieldsOf e.k.toNat).contains 2) ((fieldsOf e.k.toNat).contains 3) ((fieldsOf e.k.toNat).contains 4) ((fieldsOf e.k.toNat).contains 5)).all (fun b : Bool => b)

theorem evalid_any (e : EV) (w : World) (lo hi : Nat) (x : Value) (hR : ERep w lo hi e x) (hz : hi ≤ w.heap.size) :
  Calls Tryz.prog 48 #[x] w fun r w' => r = .returned (.bool e.valid) ∧ Below w.heap.size w w' := by
 obtain ⟨hf, vk, vn, vf, vs, A, m, c, rfl, hv⟩ := hR
 by_cases hk : 1 ≤ e.k ∧ e.k ≤ 11
 ·obtain ⟨k, hkk⟩ : ∃ k : Nat, e.k = k := ⟨e.k.toNat, by omega⟩
  have := evalid_walk e hf vk vn vf vs A m c (nameOf k) ((fieldsOf k).contains 0) ((fieldsOf k).contains 1) ((fieldsOf k).contains 2) ((fieldsOf k).contains 3) ((fieldsOf k).contains 4) ((fieldsOf k).contains 5) true _ rfl w lo hi hv hz
   (fun w => by rw [hkk]; exact of_in k (by omega) (by omega) w)
  refine this.mono fun r w' h => ⟨?_, h.2⟩
  rw [h.1]
  unfold EV.valid
  rw [show e.k.toNat = k from by omega, show decide (1 ≤ e.k ∧ e.k ≤ 11) = true from by simpa using hk]
 ·have := evalid_walk e hf vk vn vf vs A m c ⟨#[]⟩ false false false false false false false _ rfl w lo hi hv hz (fun w => of_out e.k (by omega) w)
  refine this.mono fun r w' h => ⟨?_, h.2⟩
  rw [h.1]
  unfold EV.valid
  rw [show decide (1 ≤ e.k ∧ e.k ≤ 11) = false from by simpa using hk]
  rfl
end Ev
end Go.Proofs.YtkajcldmolcllaaGreat
