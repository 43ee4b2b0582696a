/- bin.Uint: the bytes of a number, in new memory. -/
/- Bytes that are read; appends of bytes; bin.Text; slices.Grow of nil. -/
/- slices.Grow of nil; slices.Concat of bytes. -/
/- value.form and value.Bytes of a value of kind 0. -/
import Derived.Test.YtcbddebmmaflgaaGreatMpal
import Derived.RangeFuncCalls
import Derived.RangeFuncBox
import Derived.Maps.AppendAt
import Derived.Deep.AppendLies
import Derived.Below
import Derived.Shelf.Abstract
import Derived.Lib.AppendStr
import Derived.Lib.AppendZeros
import Derived.Laws.AppendOwnNone
import Derived.ChangeArms
import Derived.Deep.Draws
import Derived.Test.YtcbddebmmaflgaaGreatMpag
import Derived.Test.YtcbddebmmaflgaaGreatMpah
import Derived.Deep.RegionWith
import Derived.Deep.CutRange
import Derived.Laws.EntriesVeiled
import Derived.StillTailTactics
namespace Go.Proofs.YtcbddebmmaflgaaGreat
open Go.RowKit Go.Shelf
set_option linter.unusedVariables false
namespace Bt
open _root_.Go.Proofs.YtcbddebmmaflgaaGreat.Nm (ret_int ret_bool)
open Rt (range_law)
attribute [local go_sem] Oper.semAt_some

/-- A row of bytes of the call's own. -/
def BOwn (w : World) (base : Nat) (v : Value) (l : List Nat) : Prop := w.ownsRow base 5 1 v l.length (l.map fun (b : Nat) => Value.int .u8 (b : Int))

theorem Tryz.infoB : (Tryz.prog.info? 5).map (fun i => (i.zero, i.size, i.bytes)) = some (some (.int .u8 0), 1, 1) := by kernel_rfl

theorem bown_nil (w : World) (base : Nat) : BOwn w base (.slice none 0 0) [] := ⟨rfl, .inl ⟨rfl, rfl⟩⟩

/-- The caller's boxes: 'out' at g, the number at bx. -/
def US (w : World) (m g bx y : Nat) (l : List Nat) (W : World) : Prop :=
  (∃ v, Boxed W g 22 v ∧ BOwn W w.heap.size v l) ∧ Boxed W bx 24 (.int .u64 y) ∧ Below w.heap.size w W ∧ m ≤ W.heap.size

theorem boxed_put {W : World} {B : Nat} {t : TypeId} {v : Value} (h : Boxed W B t v) {l : Nat} {o : Obj} (o' : Obj) (hl : W.heap[l]? = some o) (ho : o.isCells = false) : Boxed (W.putObj l o') B t v := by
  refine h.kept (grownBy_putObj' W l o') fun e => ?_
  injection e with e
  subst e
  rw [show W.heap[B]? = _ from h] at hl
  injection hl with hl
  subst hl
  simp [Obj.isCells] at ho
theorem below_put' {m : Nat} {w W : World} {l : Nat} (o' : Obj) (hw : Below m w W) (hm : m ≤ W.heap.size) (hl : m ≤ l) : Below m w (W.putObj l o') :=
  hw.grown (grownBy_putObj' W l o') hm (fun k e => by cases e; exact hl)
theorem US.put {w : World} {m g bx y : Nat} {l : List Nat} {W : World} {k : Nat} {o : Obj} (o' : Obj) (h : US w m g bx y l W) (hm : w.heap.size ≤ m) (hl : m ≤ k) (hk : W.heap[k]? = some o) (ho : o.isCells = false) : US w m g bx y l (W.putObj k o') := by
  obtain ⟨⟨v, h1, h2⟩, h3, h4, h5⟩ := h
  exact ⟨⟨v, boxed_put h1 o' hk ho, ownsRow_putObj h2 o' hk ho⟩, boxed_put h3 o' hk ho, below_put' o' h4 (by omega) (by omega), by rw [World.putObj_size]; exact h5⟩
theorem US.alloc {w : World} {m g bx y : Nat} {l : List Nat} {W : World} (h : US w m g bx y l W) (hm : w.heap.size ≤ m) (o : Obj) : US w m g bx y l (W.alloc o) := by
  obtain ⟨⟨v, h1, h2⟩, h3, h4, h5⟩ := h
  exact ⟨⟨v, h1.alloc o, h2.alloc o⟩, h3.alloc o, h4.alloc (by omega) o, by simp; omega⟩
theorem US.num {w : World} {m g bx y : Nat} {l : List Nat} {W : World} (h : US w m g bx y l W) (hg : g ≠ bx) (hb : w.heap.size ≤ bx) (z : Nat) : US w m g bx z l (W.setCell ⟨bx, 0, none⟩ (.int .u64 z)) := by
  obtain ⟨⟨v, h1, h2⟩, h3, h4, h5⟩ := h
  refine ⟨⟨v, h1.kept (grownBy_setCell' W bx _) (fun e => hg (Option.some.inj e)), h2.kept (grownBy_setCell' W bx _) (.inr (fun e => h3.not_row (by decide) h2 e.symm))⟩, h3.set _, h4.setCell hb _, by simpa [World.setCell] using h5⟩

theorem ubytes_cons (f y : Nat) (h : 128 ≤ y) : ubytes (f + 1) y = ub y :: ubytes f (y / 128) := by
  rw [ubytes, if_neg (by omega), ub, if_neg (by omega)]
theorem ubytes_last (f y : Nat) (h : y < 128) : ubytes f y = [ub y] := by
  cases f with
  | zero => simp [ubytes, ub, h]
  | succ f => simp [ubytes, ub, h]
theorem ubytes_len (f : Nat) : ∀ y, (ubytes f y).length ≤ f + 1 := by
  induction f with
  | zero => intro y; simp [ubytes]
  | succ f ih =>
    intro y
    rw [ubytes]
    split
    · simp
    · have := ih (y / 128)
      simp; omega

/-- How far the bytes of x have come at y. -/
def At (x y : Nat) (l : List Nat) : Prop := y < 18446744073709551616 ∧ ∃ f, l ++ ubytes f y = ubytes 10 x ∧ y < 128 ^ (f + 1) ∧ l.length + f = 10

theorem at_start (x : Nat) (hx : x < 18446744073709551616) : At x x [] := ⟨hx, 10, rfl, by omega, rfl⟩
theorem at_next {x y : Nat} {l : List Nat} (h : At x y l) (hy : 128 ≤ y) : At x (y / 128) (l ++ [ub y]) := by
  obtain ⟨h0, f, h1, h2, h3⟩ := h
  cases f with
  | zero => simp at h2; omega
  | succ f =>
    refine ⟨by omega, f, ?_, ?_, by simp; omega⟩
    · rw [ubytes_cons f y hy] at h1
      rw [← h1]; simp
    · rw [Nat.pow_succ] at h2
      exact Nat.div_lt_of_lt_mul (by rw [Nat.mul_comm]; exact h2)
theorem at_end {x y : Nat} {l : List Nat} (h : At x y l) (hy : y < 128) : l ++ [ub y] = ubytes 10 x := by
  obtain ⟨h0, f, h1, -⟩ := h
  rw [← h1, ubytes_last f y hy]
theorem at_len {x y : Nat} {l : List Nat} (h : At x y l) : l.length ≤ 10 := by
  obtain ⟨h0, f, h1, h2, h3⟩ := h
  omega

set_option maxHeartbeats 1000000 in
set_option maxRecDepth 100000 in
theorem uint_any (x : Nat) (hx : x < 18446744073709551616) (w : World) :
    Calls Tryz.prog 30 #[.int .u64 x] w fun e w' => ∃ v, e = .returned v ∧ BOwn w' w.heap.size v (ubytes 10 x) ∧ Below w.heap.size w w' := by
  obtain ⟨i0, hi, hz0, hz1, hz2⟩ := info_parts Tryz.infoB
  refine (callsIn_wide (n := 9)).1 ?_
  refine callsIn_of_wp_marks Tryz.func30 rfl trivial ?_ rfl
  simp only [Tryz.ntmps30, List.size_toArray, List.length_cons, List.length_nil, Nat.reduceAdd, Nat.reduceSub, Array.replicate_succ, Array.replicate_zero, List.push_toArray, List.append_toArray, List.nil_append, List.cons_append]
  gi_wp2_with fail
  refine ⟨trivial, (callsIn_wide.2 (digits_new x _)).mono ?_⟩
  rintro e W2 ⟨rfl, hW2⟩
  gi_wp2_with fail
  have hz2w : W2.heap.size = w.heap.size + 1 + 1 := by rw [← hW2]; simp
  have u0 : US w W2.heap.size w.heap.size (w.heap.size + 1) x [] W2 := by
    rw [← hW2]
    have b0 := (Boxed.new w 22 (.slice none 0 0)).alloc (.cells #[.int .u64 x] 24)
    have b1 := Boxed.new (w.alloc (.cells #[.slice none 0 0] 22)) 24 (.int .u64 x)
    rw [World.size_alloc] at b1
    exact ⟨⟨_, b0, bown_nil _ _⟩, b1, ((Below.refl _ w).alloc (Nat.le_refl _) _).alloc (by simp) _, Nat.le_refl _⟩
  clear hW2
  refine range_law (σ := Nat × List Nat) rfl (by omega) (gf := 74) (lb := #[.pointer (some ⟨w.heap.size + 1, 0, none⟩)]) rfl trivial (enters_of Tryz.func74 (by kernel_rfl) rfl)
    (fun s => #[.int .u8 (ub s.1 : Nat)]) (fun _ => rfl)
    (fun s W => At x s.1 s.2 ∧ US w W2.heap.size w.heap.size (w.heap.size + 1) s.1 s.2 W)
    (fun s W => At x s.1 s.2 ∧ US w W2.heap.size w.heap.size (w.heap.size + 1) s.1 (s.2 ++ [ub s.1]) W)
    (fun _ _ => False)
    (fun W => ∃ y, US w W2.heap.size w.heap.size (w.heap.size + 1) y (ubytes 10 x) W)
    (fun s W l o o' h hl ho hc => ⟨h.1, h.2.put o' (by omega) hl ho hc⟩)
    (fun s W l o o' h hl ho hc => ⟨h.1, h.2.put o' (by omega) hl ho hc⟩)
    (fun c W l o o' h hl ho hc => h)
    (fun W l o o' h hl ho hc => h.elim fun y h => ⟨y, h.put o' (by omega) hl ho hc⟩)
    (fun s => { tmps := #[.int .u64 x, undef, .slice none 0 0, .pointer (some ⟨w.heap.size, 0, none⟩), .int .u8 (ub s.1 : Nat), .int .u64 x, .func (.func 74) #[] #[.pointer (some ⟨w.heap.size + 1, 0, none⟩)], .int .u8 (ub s.1 : Nat), undef, undef, undef, undef, undef], defers := [] })
    ?assign ?body ?iter ?done ?stop
  case assign =>
    intro l s W K hK
    gi_wp2
    exact hK
  case body =>
    rintro l ⟨y, d⟩ W ⟨hat, ⟨v, hv, hrow⟩, hnum, hB, hm⟩
    have hc := hv.cell
    have hdl := at_len hat
    simp only at hat hc hdl hrow hv
    gi_wp2_with (gi_at_builtin; refine wpListIn_append_own _ rfl _ _ 22 rfl w.heap.size 5 i0 (.int .u8 0) 1 1 Tryz.underlying22 hi hz0 hz1 hz2 rfl (by decide) _ _ _ rfl (hrow.alloc _) ⟨W.heap.size, 0, none⟩ 1 1 [.int .u8 (ub y : Nat)] rfl rfl (cell_one_new _ _ _) (by simp [Value.oneCell']) (by simp only [maxLen]; omega) (by omega) (by have := hB.size; simp; omega) ?_; intro v' w1 hown' hgrow _; obtain ⟨g', cap', rfl⟩ := ownsRow_succ hown'; obtain ⟨hv1, hv2, hr2, hk2, hb2⟩ := hv.appended (by decide) hrow hB.size (Nat.le_refl _) hown' hgrow; have hc1 := hv1.cell; have hf1 := hv1.frozen)
    have hg2 : (W.alloc (.cells #[.int .u8 (ub y : Nat)] 5)).grownBy w1 v.ownBlock := hgrow
    have hn2 : Boxed w1 (w.heap.size + 1) 24 (.int .u64 y) := (hnum.alloc _).kept hg2 (hnum.not_row (by decide) hrow)
    have hn3 := hn2.kept (grownBy_setCell' w1 w.heap.size (.slice (some ⟨g', 0, none⟩) (d.length + 1) cap')) (fun e => by injection e; omega)
    refine ⟨hk2, ⟨_, hv2, ?_⟩, hn3, hB.trans hb2, by have := hk2.size; omega⟩
    unfold BOwn
    rw [List.length_append, List.length_singleton, List.map_append]
    exact hr2
  case iter =>
    intro l o o' L L' ho ho' hLs hLd hY hl0
    refine (iter_in 8 (by omega) l (w.heap.size + 1) x hx
      (fun s W => At x s.1 s.2 ∧ US w W2.heap.size w.heap.size (w.heap.size + 1) s.1 s.2 W)
      (fun s W => At x s.1 s.2 ∧ US w W2.heap.size w.heap.size (w.heap.size + 1) s.1 s.2 W)
      (fun s W => At x s.1 s.2 ∧ US w W2.heap.size w.heap.size (w.heap.size + 1) s.1 (s.2 ++ [ub s.1]) W)
      (fun _ _ => False) L L'
      (fun s W h => ⟨⟨h.2.2.1.cell, h.2.2.1.frozen⟩, h.1.1⟩) (fun s W h => h) (fun s W h => ⟨h.2.2.1.cell, h.2.2.1.frozen⟩)
      (fun s W hy h => ⟨at_next h.1 hy, h.2.num (by omega) (by omega) _⟩)
      (fun W v h => hLs W ⟨w.heap.size + 1, 0, none⟩ v (by simp only []; omega) h) (fun s W h hl => hY s W h hl) _ ⟨at_start x hx, (u0.alloc (by omega) _).alloc (by omega) _⟩ hl0).mono ?_
    rintro e W' ⟨hv, ⟨⟨s, hs, ha, hu⟩, hl⟩ | ⟨c, hc, -⟩⟩
    · exact ⟨hv, .inl ⟨⟨s.1, by rw [at_end ha hs] at hu; exact hu⟩, hl⟩⟩
    · exact hc.elim
  case done =>
    rintro D W hD ⟨y, ⟨v, hv, hrow⟩, hnum, hB, hm⟩ hK
    have hc := hv.cell
    gi_wp2
    refine ⟨by simp, .inl ⟨_, _, rfl, run_takeDeferred hK, ?_⟩⟩
    exact ⟨_, results_tmp rfl _ _ _, v, rfl, ownsRow_putObj hrow _ hK rfl, below_put' _ hB (by omega) (by omega)⟩
  case stop =>
    rintro D c W hD h hK
    exact h.elim
end Bt
end Go.Proofs.YtcbddebmmaflgaaGreat
namespace Go.Proofs.YtcbddebmmaflgaaGreat
open Go.RowKit
set_option linter.unusedVariables false
namespace Bt
open _root_.Go.Proofs.YtcbddebmmaflgaaGreat.Nm (ret_int ret_bool)

def bv (b : Nat) : Value := .int .u8 (b : Int)

/-- A byte slice that can be read. -/
def BIn (w : World) (v : Value) (l : List Nat) : Prop := (v = .slice none 0 0 ∧ l = []) ∨ ∃ ad cap, v = .slice (some ad) l.length cap ∧ l.length ≤ cap ∧ cap ≤ maxLen ∧ ad.block < w.heap.size ∧ ∀ j u, (l.map bv)[j]? = some u → w.cell? (ad.add j) = some u

theorem block_add (a : Addr) (n : Nat) : (a.add n).block = a.block := by unfold Addr.add; split <;> rfl
theorem BIn.later {w w' : World} {v : Value} {l : List Nat} (h : BIn w v l) (hb : Below w.heap.size w w') : BIn w' v l := by
  rcases h with h | ⟨ad, cap, h1, h2, h3, h4, h5⟩
  · exact .inl h
  · exact .inr ⟨ad, cap, h1, h2, h3, Nat.lt_of_lt_of_le h4 hb.size, fun j u hu => (hb.cell (by rw [block_add]; exact h4)).trans (h5 j u hu)⟩
theorem BOwn.read {w : World} {base : Nat} {v : Value} {l : List Nat} (h : BOwn w base v l) : BIn w v l := by
  rcases h.2 with ⟨h1, h2⟩ | ⟨g, cap, cur, q1, q2, q3, q4, q5, q6, q7⟩
  · exact .inl ⟨h1, List.eq_nil_of_length_eq_zero h2⟩
  · refine .inr ⟨_, cap, q1, q4, q5, (Array.getElem?_eq_some_iff.1 q3).1, fun j u hu => ?_⟩
    have hj : j < l.length := by have := (List.getElem?_eq_some_iff.1 hu).1; simpa using this
    have : cur[j]? = some u := by
      rw [← hu]
      have e : (l.map bv) = l.map (fun (b : Nat) => Value.int .u8 (b : Int)) := rfl
      rw [e, ← q7, List.getElem?_take_of_lt (by omega), Array.getElem?_toList]
    rw [show (⟨g, 0, none⟩ : Addr).add j = ⟨g, 0 + j, none⟩ from Go.WideShapes.add_plain .., Nat.zero_add]
    simp [World.cell?, q3, this]
theorem BOwn.later {w w' : World} {base : Nat} {v : Value} {l : List Nat} (h : BOwn w base v l) (hb : Below w.heap.size w w') : BOwn w' base v l := by
  refine ⟨h.1, ?_⟩
  rcases h.2 with h | ⟨g, cap, cur, q1, q2, q3, q4⟩
  · exact .inl h
  · exact .inr ⟨g, cap, cur, q1, q2, (hb.block g (Array.getElem?_eq_some_iff.1 q3).1).trans q3, q4⟩
theorem BOwn.base {w : World} {base base' : Nat} {v : Value} {l : List Nat} (h : BOwn w base v l) (hb : base' ≤ base) : BOwn w base' v l := by
  refine ⟨h.1, ?_⟩
  rcases h.2 with h | ⟨g, cap, cur, q1, q2, q3, q4⟩
  · exact .inl h
  · exact .inr ⟨g, cap, cur, q1, by omega, q3, q4⟩
theorem BOwn.row_ge {w : World} {base : Nat} {v : Value} {l : List Nat} (h : BOwn w base v l) : ∀ k, v.ownBlock = some k → base ≤ k := by
  intro k hk
  rcases h.2 with ⟨rfl, -⟩ | ⟨g, cap, cur, rfl, q2, -⟩
  · cases hk
  · cases hk; exact q2

theorem bv_one (l : List Nat) : ∀ u ∈ l.map bv, u.oneCell' = true := by
  intro u hu
  rw [List.mem_map] at hu
  obtain ⟨b, -, rfl⟩ := hu
  rfl

/-- Bytes onto a row of the call's own. -/
theorem run_append_bytes {W : World} {base : Nat} (ty : TypeId) {v src : Value} {l m : List Nat} (hown : BOwn W base v l) (hs : BIn W src m) (hlen : l.length + m.length ≤ 35184372088832) (hbase : base ≤ W.heap.size) :
    ∃ v' W', (Builtin.append_ #[22, 22] ty #[v, src]).run Tryz.prog W = .ok v' W' ∧ BOwn W' base v' (l ++ m) ∧ W.grownBy W' v.ownBlock := by
  obtain ⟨i0, hi, hz0, hz1, hz2⟩ := info_parts Tryz.infoB
  rcases hs with ⟨rfl, rfl⟩ | ⟨ad, cap, rfl, h1, h2, h3, h4⟩
  · refine ⟨v, W, run_append_owned_none (P := Tryz.prog) (w := W) base 22 ty 5 i0 1 Tryz.underlying22 hi v l.length _ hown, by simpa using hown, ⟨rfl, rfl, rfl, Nat.le_refl _, fun _ _ _ => rfl⟩⟩
  · obtain ⟨v', W', hr, ho, hg, -, -⟩ := run_append_own_at (P := Tryz.prog) W base 22 ty 5 i0 (.int .u8 0) 1 1 Tryz.underlying22 hi hz0 hz1 hz2 rfl (by decide) v l.length _ hown ad m.length cap (m.map bv) (by simp) h4 (bv_one m) (by simp only [maxLen]; omega) (by omega) hbase
    refine ⟨v', W', hr, ?_, hg⟩
    unfold BOwn
    rw [List.length_append, List.map_append]
    exact ho

theorem wpList_append_bytes {ops : Array Oper} {rest : List Oper} {o : Oper} {a : Act} {Q : Exit → Act → World → Prop} (W : World) (hgd : o.guard = none) (s x : Operand)
    (ho : o.op = .call { callee := .builtin .append, args := #[s, x], argTypes := #[22, 22] }) (base : Nat) (v src : Value) (l m : List Nat) (hv : a.eval s = v) (hx : a.eval x = src) (hown : BOwn W base v l) (hs : BIn W src m) (hlen : l.length + m.length ≤ 35184372088832) (hbase : base ≤ W.heap.size)
    (h : ∀ v' W', BOwn W' base v' (l ++ m) → W.grownBy W' v.ownBlock → Below base W W' → wpList Tryz.prog ops Q rest (a.put o.dst v') W') : wpList Tryz.prog ops Q (o :: rest) a W := by
  obtain ⟨v', W', hr, h1, h2⟩ := run_append_bytes o.type hown hs hlen hbase
  exact Lib.wpList_append_run W hgd s x _ _ ho v src hv hx v' W' hr (h v' W' h1 h2 ((Below.refl base W).grown h2 hbase hown.row_ge))

/-- A string's bytes. -/
def sb (s : ByteArray) : List Nat := s.data.toList.map (·.toNat)
theorem sb_len (s : ByteArray) : (sb s).length = s.size := by simp [sb]
theorem sb_cells (s : ByteArray) : Lib.strCells s = (sb s).map fun (b : Nat) => Value.int .u8 (b : Int) := by simp [sb, Lib.strCells]

set_option maxRecDepth 100000 in
theorem btext_any (s : ByteArray) (hs : s.size ≤ 100000) (w : World) :
    Calls Tryz.prog 29 #[.string s] w fun e w' => ∃ v, e = .returned v ∧ BOwn w' w.heap.size v (ubytes 10 s.size ++ sb s) ∧ Below w.heap.size w w' := by
  obtain ⟨i0, hi, hz0, hz1, hz2⟩ := info_parts Tryz.infoB
  have HU := Lib.hid (uint_any s.size (by omega) w)
  have hl := ubytes_len 10 s.size
  go_enter Tryz.func29, Tryz.ntmps29
  go_wp2_with fail
  refine HU.out.mono ?_
  rintro e w1 ⟨v, rfl, hown, hb⟩
  have HB := Lib.hid hb
  have hbs := hb.size
  clear hb HU
  go_wp2_with (at_builtin; refine Lib.wpList_append_own_string _ rfl _ _ 22 9 rfl w.heap.size 5 i0 Tryz.underlying22 Tryz.underlying9 hi hz0 hz1 hz2 v _ _ rfl hown s rfl (by simp only [maxLen]; omega) (by omega) hbs ?_; intro v2 w2 hown2 hg2 _)
  have HB2 := HB.out.grown hg2 hbs (fun k hk => hown.row_ge k hk)
  go_ret
  refine ⟨v2, rfl, ?_, HB2⟩
  unfold BOwn
  rw [List.length_append, sb_len, List.map_append, ← sb_cells]
  exact hown2
end Bt
end Go.Proofs.YtcbddebmmaflgaaGreat
namespace Go.Proofs.YtcbddebmmaflgaaGreat
open Go.RowKit
set_option linter.unusedVariables false
namespace Bt
open _root_.Go.Proofs.YtcbddebmmaflgaaGreat.Nm (ret_int ret_bool)

set_option maxRecDepth 100000 in
theorem grow_any (n : Nat) (hn : n ≤ 35184372088832) (w : World) :
    Calls Tryz.prog 60 #[.slice none 0 0, .int .i64 n] w fun e w' => ∃ v, e = .returned v ∧ BOwn w' w.heap.size v [] ∧ Below w.heap.size w w' := by
  obtain ⟨i0, hi, hz0, hz1, hz2⟩ := info_parts Tryz.infoB
  rcases Nat.eq_zero_or_pos n with h0 | h0
  · subst h0
    go_enter Tryz.func60, Tryz.ntmps60
    go_wp2_with fail
    go_ret
    exact ⟨_, rfl, bown_nil _ _, Below.refl _ _⟩
  · have hr := Lib.run_append_nil_zeros (P := Tryz.prog) w 22 3 22 5 i0 (.int .u8 0) .i64 .i64 Tryz.underlying22 Tryz.underlying3 hi hz0 n h0 (by omega) (by omega) (by rw [hz2]; omega)
    have HR := Lib.hid hr
    obtain ⟨gc, hgc⟩ : ∃ gc, gc = grownCap w n 0 5 := ⟨_, rfl⟩
    have hge : n ≤ gc := by rw [hgc]; exact grownCap_ge ..
    have hle : gc ≤ maxLen := by rw [hgc]; exact grownCap_le_maxLen _ _ _ _ (by simp only [maxLen]; omega)
    rw [← hgc] at HR
    clear hr hgc
    have hle2 := hle
    simp only [maxLen] at hle2
    go_enter Tryz.func60, Tryz.ntmps60
    go_wp2_with (at_builtin; refine Lib.wpList_append_run _ rfl _ _ _ _ rfl _ _ rfl rfl _ _ HR.out ?_)
    go_ret
    refine ⟨_, rfl, ⟨rfl, .inr ⟨w.heap.size, gc, _, rfl, Nat.le_refl _, heap_alloc_new w.drew _, Nat.zero_le _, hle, ?_, rfl⟩⟩, (Below.refl _ _).drew.alloc (Nat.le_refl _) _⟩
    simp only [Array.size_append, size_zeroCells]
    show n * 1 + (gc - n) * 1 = gc * 1
    omega

/-- A list of byte slices that can be read. -/
def PIn (w : World) (A : Option Addr) (cap : Nat) (ls : List (List Nat)) : Prop := ls.length ≤ cap ∧ cap ≤ maxLen ∧ (0 < ls.length → ∃ b off, A = some ⟨b, off, none⟩ ∧ b < w.heap.size ∧ ∀ i (h : i < ls.length), ∃ v, w.cell? ⟨b, off + i, none⟩ = some v ∧ BIn w v ls[i])

theorem PIn.later {w w' : World} {A : Option Addr} {cap : Nat} {ls : List (List Nat)} (h : PIn w A cap ls) (hb : Below w.heap.size w w') : PIn w' A cap ls := ⟨h.1, h.2.1, fun hp => by
  obtain ⟨b, off, hA, hlt, h3⟩ := h.2.2 hp
  refine ⟨b, off, hA, Nat.lt_of_lt_of_le hlt hb.size, fun i hi => ?_⟩
  obtain ⟨v, h4, h5⟩ := h3 i hi
  exact ⟨v, (hb.cell (p := ⟨b, _, none⟩) hlt).trans h4, h5.later hb⟩⟩

theorem BIn.form {w : World} {v : Value} {l : List Nat} (h : BIn w v l) : ∃ A cap, v = .slice A l.length cap := by
  rcases h with ⟨rfl, rfl⟩ | ⟨ad, cap, rfl, -⟩
  · exact ⟨none, 0, rfl⟩
  · exact ⟨some ad, cap, rfl⟩

theorem flat_take (ls : List (List Nat)) (j : Nat) (h : j < ls.length) : (ls.take (j + 1)).flatten = (ls.take j).flatten ++ ls[j] := by
  rw [List.take_succ_eq_append_getElem h, List.flatten_append]; simp
theorem flat_len (ls : List (List Nat)) (j : Nat) : (ls.take j).flatten.length ≤ ls.flatten.length := by
  have : (ls.take j ++ ls.drop j).flatten.length = ls.flatten.length := by rw [List.take_append_drop]
  rw [List.flatten_append, List.length_append] at this
  omega

/-- How many bytes the first j slices have. -/
def plen (ls : List (List Nat)) (j : Nat) : Nat := (ls.take j).flatten.length

set_option maxRecDepth 100000 in
set_option maxHeartbeats 400000 in
theorem concat_any (ls : List (List Nat)) (A : Option Addr) (cap : Nat) (w : World) (h : PIn w A cap ls) (hn : ls.flatten.length ≤ 35184372088832) (hl0 : ls.length ≤ 35184372088832) :
    Calls Tryz.prog 28 #[.slice A ls.length cap] w fun e w' => ∃ v, e = .returned v ∧ BOwn w' w.heap.size v ls.flatten ∧ Below w.heap.size w w' := by
  have hl := h.1
  have hc := h.2.1
  simp only [maxLen] at hc
  have HK := Lib.hid h; clear h
  go_enter Tryz.func28, Tryz.ntmps28
  go_wp2_with fail
  go_loop [3, 11] (fun n i => ∃ (j : Nat), j ≤ ls.length ∧ i = .int .i64 j ∧ n = .int .i64 (plen ls j : Nat)) (fun _ i => ls.length - (intOf i).toNat)
  case atStart => exact ⟨0, by omega, rfl, rfl⟩
  case round =>
    obtain ⟨j, hj, rfl, rfl⟩ := hrel
    by_cases hlt : j < ls.length
    · obtain ⟨b, off, rfl, hbl, h3⟩ := HK.out.2.2 (by omega)
      obtain ⟨v, hv, hin⟩ := h3 j hlt
      obtain ⟨A', cap', rfl⟩ := hin.form
      have hf := flat_take ls j hlt
      have hm := flat_len ls (j + 1)
      rw [hf, List.length_append] at hm
      have HF : Hid (plen ls (j + 1) = plen ls j + ls[j].length) := Lib.hid (by unfold plen; rw [hf, List.length_append])
      have hm2 : plen ls j + ls[j].length ≤ 35184372088832 := by unfold plen; omega
      generalize plen ls j = a at *
      generalize ls[j].length = c at *
      clear h3 hin hf hm
      go_wp2_with fail
      exact ⟨⟨j + 1, by omega, by go_num, by rw [HF.out]; go_num⟩, by simp [intOf]; omega⟩
    · have hj' : j = ls.length := by omega
      subst hj'
      have hp : plen ls ls.length ≤ 35184372088832 := by unfold plen; rw [List.take_length]; exact hn
      generalize plen ls ls.length = N at *
      have HG := Lib.hid (grow_any N (by omega) w)
      go_wp2_with fail
      refine HG.out.mono ?_
      rintro e w1 ⟨v0, rfl, hown0, hb0⟩
      have HO := Lib.hid hown0
      have HB0 := Lib.hid hb0
      clear hown0 hb0 HG
      go_wp2_with fail
      go_loopw [6, 27] (fun o i wr => ∃ (j : Nat), j ≤ ls.length ∧ i = .int .i64 j ∧ BOwn wr w.heap.size o (ls.take j).flatten ∧ Below w.heap.size w wr) (fun _ i _ => ls.length - (intOf i).toNat)
      case atStart => exact ⟨0, by omega, rfl, HO.out, HB0.out⟩
      case round =>
        obtain ⟨j, hj, rfl, hown, hb⟩ := hrel
        by_cases hlt : j < ls.length
        · obtain ⟨b, off, rfl, hbl, h3⟩ := (HK.out.later hb).2.2 (by omega)
          obtain ⟨v, hv, hin⟩ := h3 j hlt
          have hf := flat_take ls j hlt
          have hm := flat_len ls (j + 1)
          rw [hf, List.length_append] at hm
          have hbs := hb.size
          have HB := Lib.hid hb
          clear h3 hb
          go_wp2_with (at_builtin; refine wpList_append_bytes _ rfl _ _ rfl w.heap.size _ v (ls.take j).flatten ls[j] rfl rfl hown hin (by omega) hbs ?_; intro v2 w2 hown2 hg2 hb2)
          rw [← hf] at hown2
          have HO2 := Lib.hid hown2
          have HB2 := Lib.hid (HB.out.trans hb2)
          clear hown2 hb2
          go_wp2_with fail
          exact ⟨⟨j + 1, by omega, by go_num, HO2.out, HB2.out⟩, by simp [intOf]; omega⟩
        · have hj' : j = ls.length := by omega
          subst hj'
          rw [List.take_length] at hown
          go_wp2_with fail
          go_ret
          exact ⟨_, rfl, hown, hb⟩
end Bt
end Go.Proofs.YtcbddebmmaflgaaGreat
namespace Go.Proofs.YtcbddebmmaflgaaGreat
open Go.RowKit
set_option linter.unusedVariables false
namespace Bt
open _root_.Go.Proofs.YtcbddebmmaflgaaGreat.Nm (ret_int ret_bool)
open Vt (VT Rep BoxAt below_drew)
open Ev (take_drop cons_drop)

theorem none_bytes (x v : Value) (vn : Int) (vf : Nat) (vs : ByteArray) (A : Option Addr) (m c : Nat) (vk : Int) (w : World) :
    Calls Tryz.prog 134 #[.agg #[], .agg #[.int .i64 vk, .int .i64 vn, .float .f64 vf, .string vs, .slice A m c]] w fun e w' => e = .returned (.slice none 0 0) ∧ Below w.heap.size w w' := by
  go_enter Tryz.func134, Tryz.ntmps134
  go_wp2_with fail
  go_ret
  exact ⟨rfl, ((Below.refl _ _).alloc (Nat.le_refl _) _).alloc (by simp) _⟩

theorem step_append_bytes {ops : Array Oper} {o : Oper} {a : Act} {K : Act → World → Prop} {Q : Exit → Act → World → Prop} {E : Prop} (W : World) (hgd : o.guard = none) (s x : Operand)
    (ho : o.op = .call { callee := .builtin .append, args := #[s, x], argTypes := #[22, 22] }) (base : Nat) (v src : Value) (l m : List Nat) (hv : a.eval s = v) (hx : a.eval x = src) (hown : BOwn W base v l) (hs : BIn W src m) (hlen : l.length + m.length ≤ 35184372088832) (hbase : base ≤ W.heap.size)
    (h : ∀ v' W', BOwn W' base v' (l ++ m) → W.grownBy W' v.ownBlock → Below base W W' → K (a.put o.dst v') W') : if Region.wanted o (yielded ops a.tmps) = true then Oper.wp Tryz.prog o a W K Q else E := by
  have hw : Region.wanted o (yielded ops a.tmps) = true := by simp [Region.wanted, hgd]
  rw [if_pos hw]
  obtain ⟨v', W', hr, h1, h2⟩ := run_append_bytes o.type hown hs hlen hbase
  exact Lib.wp_append_run W s x _ _ ho v src hv hx v' W' hr (h v' W' h1 h2 ((Below.refl base W).grown h2 hbase hown.row_ge))

theorem m_none_bytes (n : Nat) (w : World) : (method (n + 1) 134 (.agg #[]) "clockwork/value.bytes").run Tryz.prog w = .ok (134, .agg #[]) w := by kernel_rfl

set_option maxRecDepth 100000 in
set_option maxHeartbeats 400000 in
theorem form0 (vn : Int) (vf : Nat) (vs : ByteArray) (A : Option Addr) (m c : Nat) (w : World) :
    Calls Tryz.prog 73 #[.agg #[.int .i64 0, .int .i64 vn, .float .f64 vf, .string vs, .slice A m c]] w fun e w' => ∃ v, e = .returned v ∧ BOwn w' w.heap.size v [0] ∧ Below w.heap.size w w' := by
  obtain ⟨W0, hW0⟩ : ∃ W0, W0 = w.alloc (.cells #[.int .i64 0, .int .i64 vn, .float .f64 vf, .string vs, .slice A m c] 42) := ⟨_, rfl⟩
  have hB0 : Below w.heap.size w W0 := by rw [hW0]; exact (Below.refl _ _).alloc (Nat.le_refl _) _
  have hbx : BoxAt W0 w.heap.size 0 vn vf vs A m c := by rw [hW0]; exact BoxAt.new ..
  have hz : w.heap.size < W0.heap.size := by rw [hW0]; simp
  have HBX : Hid (∀ W, Below W0.heap.size W0 W → BoxAt W w.heap.size 0 vn vf vs A m c) := Lib.hid fun W hW => hbx.later hW hz
  have HU : Hid (∀ W, Calls Tryz.prog 30 #[.int .u64 0] W fun e w' => ∃ v, e = .returned v ∧ BOwn w' W.heap.size v [0] ∧ Below W.heap.size W w') := Lib.hid fun W => uint_any 0 (by omega) W
  have HO : Hid (∀ W, Calls Tryz.prog 78 #[.int .i64 0] W fun e w' => e = .returned (.iface 134 (.agg #[])) ∧ W = w') := Lib.hid fun W => Vt.of_any 0 W
  have HNB := Lib.hid fun W => none_bytes undef undef vn vf vs A m c 0 W
  have HB0 := Lib.hid hB0
  have hM := m_none_bytes
  obtain ⟨c0, c1, c2, c3, c4⟩ := hbx.cells
  clear hB0 hbx
  replace hW0 := Lib.hid hW0
  go_enter Tryz.func73, Tryz.ntmps73
  go_upto_region 1 with fail
  rw [← hW0.out]
  have HS : Hid (∀ W, Below W0.heap.size W0 W → (W.cell? ⟨w.heap.size, 0, none⟩ = some (.int .i64 0) ∧ W.cell? ⟨w.heap.size, 1, none⟩ = some (.int .i64 vn) ∧ W.cell? ⟨w.heap.size, 2, none⟩ = some (.float .f64 vf) ∧ W.cell? ⟨w.heap.size, 3, none⟩ = some (.string vs) ∧ W.cell? ⟨w.heap.size, 4, none⟩ = some (.slice A m c))) := Lib.hid fun W hW => (HBX.out W hW).cells
  refine wp_region_noPanic ?_
  refine wp_region_held_drew (S := (fun w' : World => w'.cell? ⟨w.heap.size, 0, none⟩ = some (.int .i64 0) ∧ w'.cell? ⟨w.heap.size, 1, none⟩ = some (.int .i64 vn) ∧ w'.cell? ⟨w.heap.size, 2, none⟩ = some (.float .f64 vf) ∧ w'.cell? ⟨w.heap.size, 3, none⟩ = some (.string vs) ∧ w'.cell? ⟨w.heap.size, 4, none⟩ = some (.slice A m c))) (by kernel_rfl) ?_ (fun hHeld => ?_)
  · exact HS.out _ (below_drew (Below.refl _ _))
  first
    | (refine take_drop (i := 0) (v := ?_) rfl (by kernel_rfl) (by kernel_rfl) (by kernel_rfl) (fun _ _ _ h => h) (Or.inl ⟨by rfl, ?_⟩) (by assumption) ?_; rotate_left 1; (focus (intro w hSw; (try dsimp only at hSw); go_simp; try with_reducible rfl)))
    | (refine take_drop (i := 0) (v := undef) rfl (by kernel_rfl) (by kernel_rfl) (by kernel_rfl) (fun _ _ _ h => h) (Or.inr ⟨by rfl, rfl⟩) (by assumption) ?_)
  try simp only [Act.put, List.setIfInBounds_toArray, List.set_cons_zero, List.set_cons_succ]
  first
    | (refine take_drop (i := 1) (v := ?_) rfl (by kernel_rfl) (by kernel_rfl) (by kernel_rfl) (fun _ _ _ h => h) (Or.inl ⟨by rfl, ?_⟩) (by assumption) ?_; rotate_left 1; (focus (intro w hSw; (try dsimp only at hSw); go_simp; try with_reducible rfl)))
    | (refine take_drop (i := 1) (v := undef) rfl (by kernel_rfl) (by kernel_rfl) (by kernel_rfl) (fun _ _ _ h => h) (Or.inr ⟨by rfl, rfl⟩) (by assumption) ?_)
  try simp only [Act.put, List.setIfInBounds_toArray, List.set_cons_zero, List.set_cons_succ]
  first
    | (refine take_drop (i := 2) (v := ?_) rfl (by kernel_rfl) (by kernel_rfl) (by kernel_rfl) (fun _ _ _ h => h) (Or.inl ⟨by rfl, ?_⟩) (by assumption) ?_; rotate_left 1; (focus (intro w hSw; (try dsimp only at hSw); go_simp; try with_reducible rfl)))
    | (refine take_drop (i := 2) (v := undef) rfl (by kernel_rfl) (by kernel_rfl) (by kernel_rfl) (fun _ _ _ h => h) (Or.inr ⟨by rfl, rfl⟩) (by assumption) ?_)
  try simp only [Act.put, List.setIfInBounds_toArray, List.set_cons_zero, List.set_cons_succ]
  first
    | (refine take_drop (i := 4) (v := ?_) rfl (by kernel_rfl) (by kernel_rfl) (by kernel_rfl) (fun _ _ _ h => h) (Or.inl ⟨by rfl, ?_⟩) (by assumption) ?_; rotate_left 1; (focus (intro w hSw; (try dsimp only at hSw); go_simp; try with_reducible rfl)))
    | (refine take_drop (i := 4) (v := undef) rfl (by kernel_rfl) (by kernel_rfl) (by kernel_rfl) (fun _ _ _ h => h) (Or.inr ⟨by rfl, rfl⟩) (by assumption) ?_)
  try simp only [Act.put, List.setIfInBounds_toArray, List.set_cons_zero, List.set_cons_succ]
  first
    | (refine take_drop (i := 5) (v := ?_) rfl (by kernel_rfl) (by kernel_rfl) (by kernel_rfl) (fun _ _ _ h => h) (Or.inl ⟨by rfl, ?_⟩) (by assumption) ?_; rotate_left 1; (focus (intro w hSw; (try dsimp only at hSw); go_simp; try with_reducible rfl)))
    | (refine take_drop (i := 5) (v := undef) rfl (by kernel_rfl) (by kernel_rfl) (by kernel_rfl) (fun _ _ _ h => h) (Or.inr ⟨by rfl, rfl⟩) (by assumption) ?_)
  try simp only [Act.put, List.setIfInBounds_toArray, List.set_cons_zero, List.set_cons_succ]
  first
    | (refine take_drop (i := 7) (v := ?_) rfl (by kernel_rfl) (by kernel_rfl) (by kernel_rfl) (fun _ _ _ h => h) (Or.inl ⟨by rfl, ?_⟩) (by assumption) ?_; rotate_left 1; (focus (intro w hSw; (try dsimp only at hSw); go_simp; try with_reducible rfl)))
    | (refine take_drop (i := 7) (v := undef) rfl (by kernel_rfl) (by kernel_rfl) (by kernel_rfl) (fun _ _ _ h => h) (Or.inr ⟨by rfl, rfl⟩) (by assumption) ?_)
  try simp only [Act.put, List.setIfInBounds_toArray, List.set_cons_zero, List.set_cons_succ]
  refine wpAnyH_ready (rs := [3]) (by kernel_rfl) (by simp) ?_
  refine cons_drop rfl (fun K hK => ?_) AllReadyH.nil
  go_simp
  refine (HU.out _).mono ?_
  rintro e w1 ⟨v1, rfl, ho1, hb1⟩
  have h1B : Hid (Below W0.heap.size W0 w1) := Lib.hid ((below_drew (Below.refl _ _)).trans hb1)
  have HO1 := Lib.hid ho1
  clear ho1 hb1
  go_wp2_with fail
  refine hK.out _ _ (HS.out _ h1B.out) (fun h1 => ?_)
  clear hK K hHeld
  try simp only [Act.put, List.setIfInBounds_toArray, List.set_cons_zero, List.set_cons_succ]
  refine wpAnyH_ready (rs := [6]) (by kernel_rfl) (by simp) ?_
  refine cons_drop rfl (fun K hK => ?_) AllReadyH.nil
  go_simp
  refine (HO.out _).mono ?_
  rintro e w2 ⟨rfl, rfl⟩
  have h2B := h1B
  go_wp2_with fail
  refine hK.out _ _ (HS.out _ h2B.out) (fun h2 => ?_)
  clear hK K h1
  try simp only [Act.put, List.setIfInBounds_toArray, List.set_cons_zero, List.set_cons_succ]
  refine wpAnyH_ready (rs := [8]) (by kernel_rfl) (by simp) ?_
  refine cons_drop rfl (fun K hK => ?_) AllReadyH.nil
  go_simp
  refine (HNB.out _).mono ?_
  rintro e w3 ⟨rfl, hb3⟩
  have h3B : Hid (Below W0.heap.size W0 w3) := Lib.hid (h1B.out.trans (hb3.mono h1B.out.size))
  have HO3 := Lib.hid (HO1.out.later hb3)
  clear hb3
  go_wp2_with fail
  refine hK.out _ _ (HS.out _ h3B.out) (fun h3 => ?_)
  clear hK K h2
  try simp only [Act.put, List.setIfInBounds_toArray, List.set_cons_zero, List.set_cons_succ]
  refine wpAnyH_ready (rs := [9]) (by kernel_rfl) (by simp) ?_
  refine cons_drop rfl (fun K hK => ?_) AllReadyH.nil
  refine step_append_bytes _ rfl (.tmp 6) (.tmp 11) rfl W0.heap.size v1 (.slice none 0 0) [0] [] (by simp [Act.eval]) (by simp [Act.eval]) HO3.out (.inl ⟨rfl, rfl⟩) (by simp) h3B.out.size ?_
  intro v4 w4 hown4 hg4 hb4
  have h4B := Lib.hid (h3B.out.trans hb4)
  refine hK.out _ _ (HS.out _ h4B.out) (fun h4 => ?_)
  clear hK K h3
  try simp only [Act.put, List.setIfInBounds_toArray, List.set_cons_zero, List.set_cons_succ]
  first
    | (refine take_drop (i := 10) (v := ?_) rfl (by kernel_rfl) (by kernel_rfl) (by kernel_rfl) (fun _ _ _ h => h) (Or.inl ⟨by rfl, ?_⟩) (by assumption) ?_; rotate_left 1; (focus (intro w hSw; (try dsimp only at hSw); go_simp; try with_reducible rfl)))
    | (refine take_drop (i := 10) (v := undef) rfl (by kernel_rfl) (by kernel_rfl) (by kernel_rfl) (fun _ _ _ h => h) (Or.inr ⟨by rfl, rfl⟩) (by assumption) ?_)
  try simp only [Act.put, List.setIfInBounds_toArray, List.set_cons_zero, List.set_cons_succ]
  refine wpAnyH_done (by kernel_rfl) ?_ _
  refine NoPanic.normal ?_
  go_wp2_with fail
  go_ret
  exact ⟨v4, rfl, hown4.base HB0.out.size, HB0.out.trans (h4B.out.mono HB0.out.size)⟩

set_option maxRecDepth 100000 in
set_option maxHeartbeats 400000 in
theorem vbytes0 (t : VT) (lo hi : Nat) (vn : Int) (vf : Nat) (vs : ByteArray) (A : Option Addr) (m c : Nat) (w : World) (hv : Rep w lo hi t (.agg #[.int .i64 0, .int .i64 vn, .float .f64 vf, .string vs, .slice A m c])) (hz : hi ≤ w.heap.size) (hval : t.valid 8 = true) :
    Calls Tryz.prog 59 #[.agg #[.int .i64 0, .int .i64 vn, .float .f64 vf, .string vs, .slice A m c]] w fun e w' => ∃ v, e = .returned (.tuple #[v, .bool true]) ∧ BOwn w' w.heap.size v [0] ∧ Below w.heap.size w w' := by
  obtain ⟨W0, hW0⟩ : ∃ W0, W0 = w.alloc (.cells #[.int .i64 0, .int .i64 vn, .float .f64 vf, .string vs, .slice A m c] 42) := ⟨_, rfl⟩
  have hB0 : Below w.heap.size w W0 := by rw [hW0]; exact (Below.refl _ _).alloc (Nat.le_refl _) _
  have hbx : BoxAt W0 w.heap.size 0 vn vf vs A m c := by rw [hW0]; exact BoxAt.new ..
  have hz0 : w.heap.size < W0.heap.size := by rw [hW0]; simp
  have HBX : Hid (∀ W, Below W0.heap.size W0 W → BoxAt W w.heap.size 0 vn vf vs A m c) := Lib.hid fun W hW => hbx.later hW hz0
  have HV := Lib.hid (Vt.valid_any t W0 lo hi _ (hv.later (hB0.mono hz)) (Nat.le_trans hz hB0.size))
  rw [hval] at HV
  have HF := Lib.hid fun W => form0 vn vf vs A m c W
  have HB0 := Lib.hid hB0
  obtain ⟨c0, c1, c2, c3, c4⟩ := hbx.cells
  clear hB0 hbx hv
  replace hW0 := Lib.hid hW0
  go_enter Tryz.func59, Tryz.ntmps59
  go_upto_region 1 with fail
  rw [← hW0.out]
  go_wp2_with fail
  refine HV.out.mono ?_
  rintro e w1 ⟨rfl, hb1⟩
  obtain ⟨d0, d1, d2, d3, d4⟩ := (HBX.out w1 hb1).cells
  have HB1 := Lib.hid hb1
  clear hb1 c0 c1 c2 c3 c4
  go_wp2_with fail
  refine (HF.out _).mono ?_
  rintro e w2 ⟨v, rfl, hown, hb2⟩
  have HO2 := Lib.hid hown
  have HB2 := Lib.hid hb2
  clear hown hb2
  go_wp2_with fail
  have hz1 := Nat.le_trans HB0.out.size HB1.out.size
  exact bodyPost_ret (v := .tuple #[v, .bool true]) (by simp [results, Tryz.results59, go_sem]) rfl ⟨v, rfl, HO2.out.base hz1, HB0.out.trans ((HB1.out.trans (HB2.out.mono HB1.out.size)).mono HB0.out.size)⟩
end Bt
end Go.Proofs.YtcbddebmmaflgaaGreat
