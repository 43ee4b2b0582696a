/- bin.Uint: the bytes of a number, in new memory. -/
import Derived.Test.YtpneejlilgepfaaBtA
import Derived.RangeFuncCalls
import Derived.RangeFuncBox
import Derived.Maps.AppendAt
import Derived.Deep.AppendLies
import Derived.Below
import Derived.Shelf.Abstract
namespace Go.Proofs.Ytpneejlilgepfaa
open Go.RowKit Go.Shelf
set_option linter.unusedVariables false
namespace Bt
open Nm (ret_int ret_bool)
open Rt (range_law)
attribute [local go_sem] Oper.semAt_some

/-- A row of bytes of the call's own. -/
def BOwn (w : World) (base : Nat) (v : Value) (l : List Nat) : Prop := w.ownsRow base 5 1 v l.length (l.map fun (b : Nat) => Value.int .u8 (b : Int))

theorem Try.infoB : (Try.prog.info? 5).map (fun i => (i.zero, i.size, i.bytes)) = some (some (.int .u8 0), 1, 1) := by kernel_rfl

theorem bown_nil (w : World) (base : Nat) : BOwn w base (.slice none 0 0) [] := ⟨rfl, .inl ⟨rfl, rfl⟩⟩

/-- The caller's boxes: 'out' at g, the number at bx. -/
def US (w : World) (m g bx y : Nat) (l : List Nat) (W : World) : Prop :=
  (∃ v, Boxed W g 40 v ∧ BOwn W w.heap.size v l) ∧ Boxed W bx 22 (.int .u64 y) ∧ Below w.heap.size w W ∧ m ≤ W.heap.size

theorem boxed_put {W : World} {B : Nat} {t : TypeId} {v : Value} (h : Boxed W B t v) {l : Nat} {o : Obj} (o' : Obj) (hl : W.heap[l]? = some o) (ho : o.isCells = false) : Boxed (W.putObj l o') B t v := by
  refine h.kept (grownBy_putObj' W l o') fun e => ?_
  injection e with e
  subst e
  rw [show W.heap[B]? = _ from h] at hl
  injection hl with hl
  subst hl
  simp [Obj.isCells] at ho
theorem below_put' {m : Nat} {w W : World} {l : Nat} (o' : Obj) (hw : Below m w W) (hm : m ≤ W.heap.size) (hl : m ≤ l) : Below m w (W.putObj l o') :=
  hw.grown (grownBy_putObj' W l o') hm (fun k e => by cases e; exact hl)
theorem US.put {w : World} {m g bx y : Nat} {l : List Nat} {W : World} {k : Nat} {o : Obj} (o' : Obj) (h : US w m g bx y l W) (hm : w.heap.size ≤ m) (hl : m ≤ k) (hk : W.heap[k]? = some o) (ho : o.isCells = false) : US w m g bx y l (W.putObj k o') := by
  obtain ⟨⟨v, h1, h2⟩, h3, h4, h5⟩ := h
  exact ⟨⟨v, boxed_put h1 o' hk ho, ownsRow_putObj h2 o' hk ho⟩, boxed_put h3 o' hk ho, below_put' o' h4 (by omega) (by omega), by rw [World.putObj_size]; exact h5⟩
theorem US.alloc {w : World} {m g bx y : Nat} {l : List Nat} {W : World} (h : US w m g bx y l W) (hm : w.heap.size ≤ m) (o : Obj) : US w m g bx y l (W.alloc o) := by
  obtain ⟨⟨v, h1, h2⟩, h3, h4, h5⟩ := h
  exact ⟨⟨v, h1.alloc o, h2.alloc o⟩, h3.alloc o, h4.alloc (by omega) o, by simp; omega⟩
theorem US.num {w : World} {m g bx y : Nat} {l : List Nat} {W : World} (h : US w m g bx y l W) (hg : g ≠ bx) (hb : w.heap.size ≤ bx) (z : Nat) : US w m g bx z l (W.setCell ⟨bx, 0, none⟩ (.int .u64 z)) := by
  obtain ⟨⟨v, h1, h2⟩, h3, h4, h5⟩ := h
  refine ⟨⟨v, h1.kept (grownBy_setCell' W bx _) (fun e => hg (Option.some.inj e)), h2.kept (grownBy_setCell' W bx _) (.inr (fun e => h3.not_row (by decide) h2 e.symm))⟩, h3.set _, h4.setCell hb _, by simpa [World.setCell] using h5⟩

theorem ubytes_cons (f y : Nat) (h : 128 ≤ y) : ubytes (f + 1) y = ub y :: ubytes f (y / 128) := by
  rw [ubytes, if_neg (by omega), ub, if_neg (by omega)]
theorem ubytes_last (f y : Nat) (h : y < 128) : ubytes f y = [ub y] := by
  cases f with
  | zero => simp [ubytes, ub, h]
  | succ f => simp [ubytes, ub, h]
theorem ubytes_len (f : Nat) : ∀ y, (ubytes f y).length ≤ f + 1 := by
  induction f with
  | zero => intro y; simp [ubytes]
  | succ f ih =>
    intro y
    rw [ubytes]
    split
    · simp
    · have := ih (y / 128)
      simp; omega

/-- How far the bytes of x have come at y. -/
def At (x y : Nat) (l : List Nat) : Prop := y < 18446744073709551616 ∧ ∃ f, l ++ ubytes f y = ubytes 10 x ∧ y < 128 ^ (f + 1) ∧ l.length + f = 10

theorem at_start (x : Nat) (hx : x < 18446744073709551616) : At x x [] := ⟨hx, 10, rfl, by omega, rfl⟩
theorem at_next {x y : Nat} {l : List Nat} (h : At x y l) (hy : 128 ≤ y) : At x (y / 128) (l ++ [ub y]) := by
  obtain ⟨h0, f, h1, h2, h3⟩ := h
  cases f with
  | zero => simp at h2; omega
  | succ f =>
    refine ⟨by omega, f, ?_, ?_, by simp; omega⟩
    · rw [ubytes_cons f y hy] at h1
      rw [← h1]; simp
    · rw [Nat.pow_succ] at h2
      exact Nat.div_lt_of_lt_mul (by rw [Nat.mul_comm]; exact h2)
theorem at_end {x y : Nat} {l : List Nat} (h : At x y l) (hy : y < 128) : l ++ [ub y] = ubytes 10 x := by
  obtain ⟨h0, f, h1, -⟩ := h
  rw [← h1, ubytes_last f y hy]
theorem at_len {x y : Nat} {l : List Nat} (h : At x y l) : l.length ≤ 10 := by
  obtain ⟨h0, f, h1, h2, h3⟩ := h
  omega

set_option maxHeartbeats 1000000 in
set_option maxRecDepth 100000 in
theorem uint_any (x : Nat) (hx : x < 18446744073709551616) (w : World) :
    Calls Try.prog 29 #[.int .u64 x] w fun e w' => ∃ v, e = .returned v ∧ BOwn w' w.heap.size v (ubytes 10 x) ∧ Below w.heap.size w w' := by
  obtain ⟨i0, hi, hz0, hz1, hz2⟩ := info_parts Try.infoB
  refine (callsIn_wide (n := 9)).1 ?_
  refine callsIn_of_wp_marks Try.func29 rfl trivial ?_ rfl
  simp only [Try.ntmps29, List.size_toArray, List.length_cons, List.length_nil, Nat.reduceAdd, Nat.reduceSub, Array.replicate_succ, Array.replicate_zero, List.push_toArray, List.append_toArray, List.nil_append, List.cons_append]
  gi_wp2_with fail
  refine ⟨trivial, (callsIn_wide.2 (digits_new x _)).mono ?_⟩
  rintro e W2 ⟨rfl, hW2⟩
  gi_wp2_with fail
  have hz2w : W2.heap.size = w.heap.size + 1 + 1 := by rw [← hW2]; simp
  have u0 : US w W2.heap.size w.heap.size (w.heap.size + 1) x [] W2 := by
    rw [← hW2]
    have b0 := (Boxed.new w 40 (.slice none 0 0)).alloc (.cells #[.int .u64 x] 22)
    have b1 := Boxed.new (w.alloc (.cells #[.slice none 0 0] 40)) 22 (.int .u64 x)
    rw [World.size_alloc] at b1
    exact ⟨⟨_, b0, bown_nil _ _⟩, b1, ((Below.refl _ w).alloc (Nat.le_refl _) _).alloc (by simp) _, Nat.le_refl _⟩
  clear hW2
  refine range_law (σ := Nat × List Nat) rfl (by omega) (gf := 49) (lb := #[.pointer (some ⟨w.heap.size + 1, 0, none⟩)]) rfl trivial (enters_of Try.func49 (by kernel_rfl) rfl)
    (fun s => #[.int .u8 (ub s.1 : Nat)]) (fun _ => rfl)
    (fun s W => At x s.1 s.2 ∧ US w W2.heap.size w.heap.size (w.heap.size + 1) s.1 s.2 W)
    (fun s W => At x s.1 s.2 ∧ US w W2.heap.size w.heap.size (w.heap.size + 1) s.1 (s.2 ++ [ub s.1]) W)
    (fun _ _ => False)
    (fun W => ∃ y, US w W2.heap.size w.heap.size (w.heap.size + 1) y (ubytes 10 x) W)
    (fun s W l o o' h hl ho hc => ⟨h.1, h.2.put o' (by omega) hl ho hc⟩)
    (fun s W l o o' h hl ho hc => ⟨h.1, h.2.put o' (by omega) hl ho hc⟩)
    (fun c W l o o' h hl ho hc => h)
    (fun W l o o' h hl ho hc => h.elim fun y h => ⟨y, h.put o' (by omega) hl ho hc⟩)
    (fun s => { tmps := #[.int .u64 x, undef, .slice none 0 0, .pointer (some ⟨w.heap.size, 0, none⟩), .int .u8 (ub s.1 : Nat), .int .u64 x, .func (.func 49) #[] #[.pointer (some ⟨w.heap.size + 1, 0, none⟩)], .int .u8 (ub s.1 : Nat), undef, undef, undef, undef, undef], defers := [] })
    ?assign ?body ?iter ?done ?stop
  case assign =>
    intro l s W K hK
    gi_wp2
    exact hK
  case body =>
    rintro l ⟨y, d⟩ W ⟨hat, ⟨v, hv, hrow⟩, hnum, hB, hm⟩
    have hc := hv.cell
    have hdl := at_len hat
    simp only at hat hc hdl hrow hv
    gi_wp2_with (gi_at_builtin; refine wpListIn_append_own _ rfl _ _ 40 rfl w.heap.size 5 i0 (.int .u8 0) 1 1 Try.underlying40 hi hz0 hz1 hz2 rfl (by decide) _ _ _ rfl (hrow.alloc _) ⟨W.heap.size, 0, none⟩ 1 1 [.int .u8 (ub y : Nat)] rfl rfl (cell_one_new _ _ _) (by simp [Value.oneCell']) (by simp only [maxLen]; omega) (by omega) (by have := hB.size; simp; omega) ?_; intro v' w1 hown' hgrow _; obtain ⟨g', cap', rfl⟩ := ownsRow_succ hown'; obtain ⟨hv1, hv2, hr2, hk2, hb2⟩ := hv.appended (by decide) hrow hB.size (Nat.le_refl _) hown' hgrow; have hc1 := hv1.cell; have hf1 := hv1.frozen)
    have hg2 : (W.alloc (.cells #[.int .u8 (ub y : Nat)] 5)).grownBy w1 v.ownBlock := hgrow
    have hn2 : Boxed w1 (w.heap.size + 1) 22 (.int .u64 y) := (hnum.alloc _).kept hg2 (hnum.not_row (by decide) hrow)
    have hn3 := hn2.kept (grownBy_setCell' w1 w.heap.size (.slice (some ⟨g', 0, none⟩) (d.length + 1) cap')) (fun e => by injection e; omega)
    refine ⟨hk2, ⟨_, hv2, ?_⟩, hn3, hB.trans hb2, by have := hk2.size; omega⟩
    unfold BOwn
    rw [List.length_append, List.length_singleton, List.map_append]
    exact hr2
  case iter =>
    intro l o o' L L' ho ho' hLs hLd hY hl0
    refine (iter_in 8 (by omega) l (w.heap.size + 1) x hx
      (fun s W => At x s.1 s.2 ∧ US w W2.heap.size w.heap.size (w.heap.size + 1) s.1 s.2 W)
      (fun s W => At x s.1 s.2 ∧ US w W2.heap.size w.heap.size (w.heap.size + 1) s.1 s.2 W)
      (fun s W => At x s.1 s.2 ∧ US w W2.heap.size w.heap.size (w.heap.size + 1) s.1 (s.2 ++ [ub s.1]) W)
      (fun _ _ => False) L L'
      (fun s W h => ⟨⟨h.2.2.1.cell, h.2.2.1.frozen⟩, h.1.1⟩) (fun s W h => h) (fun s W h => ⟨h.2.2.1.cell, h.2.2.1.frozen⟩)
      (fun s W hy h => ⟨at_next h.1 hy, h.2.num (by omega) (by omega) _⟩)
      (fun W v h => hLs W ⟨w.heap.size + 1, 0, none⟩ v (by simp only []; omega) h) (fun s W h hl => hY s W h hl) _ ⟨at_start x hx, (u0.alloc (by omega) _).alloc (by omega) _⟩ hl0).mono ?_
    rintro e W' ⟨hv, ⟨⟨s, hs, ha, hu⟩, hl⟩ | ⟨c, hc, -⟩⟩
    · exact ⟨hv, .inl ⟨⟨s.1, by rw [at_end ha hs] at hu; exact hu⟩, hl⟩⟩
    · exact hc.elim
  case done =>
    rintro D W hD ⟨y, ⟨v, hv, hrow⟩, hnum, hB, hm⟩ hK
    have hc := hv.cell
    gi_wp2
    refine ⟨by simp, .inl ⟨_, _, rfl, run_takeDeferred hK, ?_⟩⟩
    exact ⟨_, results_tmp rfl _ _ _, v, rfl, ownsRow_putObj hrow _ hK rfl, below_put' _ hB (by omega) (by omega)⟩
  case stop =>
    rintro D c W hD h hK
    exact h.elim
end Bt
end Go.Proofs.Ytpneejlilgepfaa
