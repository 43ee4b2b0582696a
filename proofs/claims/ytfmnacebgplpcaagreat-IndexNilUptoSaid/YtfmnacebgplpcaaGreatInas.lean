/- bin.Uint: the bytes of a number, in new memory. -/
import Derived.Test.YtfmnacebgplpcaaGreatInaj
import Derived.RangeFuncCalls
import Derived.RangeFuncBox
import Derived.Maps.AppendAt
import Derived.Deep.AppendLies
import Derived.Below
import Derived.Shelf.Abstract
import Derived.Lib.AppendStr
import Derived.Lib.AppendZeros
import Derived.Laws.AppendOwnNone
import Derived.ChangeArms
import Derived.Deep.Draws
import Derived.Test.YtfmnacebgplpcaaGreatInab
set_option maxRecDepth 100000
set_option maxHeartbeats 1000000
variable {p : Prop}
set_option linter.unusedVariables false
set_option linter.unusedSimpArgs false
open Go.RowKit
namespace Go.Proofs.YtfmnacebgplpcaaGreat
open Go.RowKit Go.Shelf
namespace Bt
open _root_.Go.Proofs.YtfmnacebgplpcaaGreat.Nm (Ds Df)
open Rt (Gk)
attribute [local go_sem] Oper.semAt_some
def BOwn (w : World) (base : Nat) (v : Value) (l : List Nat) : Prop := w.ownsRow base 5 1 v l.length (l.map fun (b : Nat) => Value.int .u8 (b : Int))
theorem Tryz.infoB : (Tryz.prog.info? 5).map (fun i => (i.zero, i.size, i.bytes)) = some (some (.int .u8 0), 1, 1) := by kernel_rfl
theorem GQ (w : World) (base : Nat) : BOwn w base (.slice none 0 0) [] := ⟨rfl, .inl ⟨rfl, rfl⟩⟩
def US (w : World) (m g bx y : Nat) (l : List Nat) (W : World) : Prop :=
 (∃ v, Boxed W g 40 v ∧ BOwn W w.heap.size v l) ∧ Boxed W bx 30 (.int .u64 y) ∧ Below w.heap.size w W ∧ m ≤ W.heap.size
theorem FZ {W : World} {B : Nat} {t : TypeId} {v : Value} (h : Boxed W B t v) {l : Nat} {o : Obj} (o' : Obj) (hl : W.heap[l]? = some o) (ho : o.isCells = false) : Boxed (W.putObj l o') B t v := by
 refine h.kept (grownBy_putObj' W l o') fun e => ?_
 injection e with e
 subst e
 rw [show W.heap[B]? = _ from h] at hl
 injection hl with hl
 subst hl
 simp [Obj.isCells] at ho
theorem FK {m : Nat} {w W : World} {l : Nat} (o' : Obj) (hw : Below m w W) (hm : m ≤ W.heap.size) (hl : m ≤ l) : Below m w (W.putObj l o') :=
 hw.grown (grownBy_putObj' W l o') hm (fun k e => by cases e; exact hl)
theorem US.put {w : World} {m g bx y : Nat} {l : List Nat} {W : World} {k : Nat} {o : Obj} (o' : Obj) (h : US w m g bx y l W) (hm : w.heap.size ≤ m) (hl : m ≤ k) (hk : W.heap[k]? = some o) (ho : o.isCells = false) : US w m g bx y l (W.putObj k o') := by
 obtain ⟨⟨v, h1, h2⟩, h3, h4, h5⟩ := h
 exact ⟨⟨v, FZ h1 o' hk ho, ownsRow_putObj h2 o' hk ho⟩, FZ h3 o' hk ho, FK o' h4 (by omega) (by omega), by rw [World.putObj_size]; exact h5⟩
theorem US.alloc {w : World} {m g bx y : Nat} {l : List Nat} {W : World} (h : US w m g bx y l W) (hm : w.heap.size ≤ m) (o : Obj) : US w m g bx y l (W.alloc o) := by
 obtain ⟨⟨v, h1, h2⟩, h3, h4, h5⟩ := h
 exact ⟨⟨v, h1.alloc o, h2.alloc o⟩, h3.alloc o, h4.alloc (by omega) o, by simp; omega⟩
theorem US.num {w : World} {m g bx y : Nat} {l : List Nat} {W : World} (h : US w m g bx y l W) (hg : g ≠ bx) (hb : w.heap.size ≤ bx) (z : Nat) : US w m g bx z l (W.setCell ⟨bx, 0, none⟩ (.int .u64 z)) := by
 obtain ⟨⟨v, h1, h2⟩, h3, h4, h5⟩ := h
 refine ⟨⟨v, h1.kept (grownBy_setCell' W bx _) (fun e => hg (Option.some.inj e)), h2.kept (grownBy_setCell' W bx _) (.inr (fun e => h3.not_row (by decide) h2 e.symm))⟩, h3.set _, h4.setCell hb _, by simpa [World.setCell] using h5⟩
theorem VR (f y : Nat) (h : 128 ≤ y) : Db (f + 1) y = ub y :: Db f (y / 128) := by
 rw [Db, if_neg (by omega), ub, if_neg (by omega)]
theorem VQ (f y : Nat) (h : y < 128) : Db f y = [ub y] := by
 cases f with
 | zero => simp [Db, ub, h]
 | succ f => simp [Db, ub, h]
theorem Dh (f : Nat) : ∀ y, (Db f y).length ≤ f + 1 := by
 induction f with
 | zero => intro y; simp [Db]
 | succ f ih =>
  intro y
  rw [Db]
  split
  ·simp
  ·have := ih (y / 128)
   simp; omega
def At (x y : Nat) (l : List Nat) : Prop := y < 18446744073709551616 ∧ ∃ f, l ++ Db f y = Db 10 x ∧ y < 128 ^ (f + 1) ∧ l.length + f = 10
theorem at_start (x : Nat) (hx : x < 18446744073709551616) : At x x [] := ⟨hx, 10, rfl, by omega, rfl⟩
theorem at_next {x y : Nat} {l : List Nat} (h : At x y l) (hy : 128 ≤ y) : At x (y / 128) (l ++ [ub y]) := by
 obtain ⟨h0, f, h1, h2, h3⟩ := h
 cases f with
 | zero => simp at h2; omega
 | succ f =>
  refine ⟨by omega, f, ?_, ?_, by simp; omega⟩
  ·rw [VR f y hy] at h1
   rw [← h1]; simp
  ·rw [Nat.pow_succ] at h2
   exact Nat.div_lt_of_lt_mul (by rw [Nat.mul_comm]; exact h2)
theorem at_end {x y : Nat} {l : List Nat} (h : At x y l) (hy : y < 128) : l ++ [ub y] = Db 10 x := by
 obtain ⟨h0, f, h1, -⟩ := h
 rw [← h1, VQ f y hy]
theorem at_len {x y : Nat} {l : List Nat} (h : At x y l) : l.length ≤ 10 := by
 obtain ⟨h0, f, h1, h2, h3⟩ := h
 omega
theorem Fdz (x : Nat) (hx : x < 18446744073709551616) (w : World) :
  Calls Tryz.prog 64 #[.int .u64 x] w fun e w' => ∃ v, e = .returned v ∧ BOwn w' w.heap.size v (Db 10 x) ∧ Below w.heap.size w w' := by
 obtain ⟨i0, hi, hz0, hz1, hz2⟩ := info_parts Tryz.infoB
 refine (callsIn_wide (n := 9)).1 ?_
 refine callsIn_of_wp_marks Tryz.func64 rfl trivial ?_ rfl
 simp only [Tryz.ntmps64, List.size_toArray, List.length_cons, List.length_nil, Nat.reduceAdd, Nat.reduceSub, Array.replicate_succ, Array.replicate_zero, List.push_toArray, List.append_toArray, List.nil_append, List.cons_append]
 gi_wp2_with fail
 refine ⟨trivial, (callsIn_wide.2 (Jt x _)).mono ?_⟩
 rintro e W2 ⟨rfl, hW2⟩
 gi_wp2_with fail
 have hz2w : W2.heap.size = w.heap.size + 1 + 1 := by rw [← hW2]; simp
 have u0 : US w W2.heap.size w.heap.size (w.heap.size + 1) x [] W2 := by
  rw [← hW2]
  have b0 := (Boxed.new w 40 (.slice none 0 0)).alloc (.cells #[.int .u64 x] 30)
  have b1 := Boxed.new (w.alloc (.cells #[.slice none 0 0] 40)) 30 (.int .u64 x)
  rw [World.size_alloc] at b1
  exact ⟨⟨_, b0, GQ _ _⟩, b1, ((Below.refl _ w).alloc (Nat.le_refl _) _).alloc (by simp) _, Nat.le_refl _⟩
 clear hW2
 refine Gk (σ := Nat × List Nat) rfl (by omega) (gf := 145) (lb := #[.pointer (some ⟨w.heap.size + 1, 0, none⟩)]) rfl trivial (enters_of Tryz.func145 (by kernel_rfl) rfl)
  (fun s => #[.int .u8 (ub s.1 : Nat)]) (fun _ => rfl)
  (fun s W => At x s.1 s.2 ∧ US w W2.heap.size w.heap.size (w.heap.size + 1) s.1 s.2 W)
  (fun s W => At x s.1 s.2 ∧ US w W2.heap.size w.heap.size (w.heap.size + 1) s.1 (s.2 ++ [ub s.1]) W)
  (fun _ _ => False)
  (fun W => ∃ y, US w W2.heap.size w.heap.size (w.heap.size + 1) y (Db 10 x) W)
  (fun s W l o o' h hl ho hc => ⟨h.1, h.2.put o' (by omega) hl ho hc⟩)
  (fun s W l o o' h hl ho hc => ⟨h.1, h.2.put o' (by omega) hl ho hc⟩)
  (fun c W l o o' h hl ho hc => h)
  (fun W l o o' h hl ho hc => h.elim fun y h => ⟨y, h.put o' (by omega) hl ho hc⟩)
  (fun s => { tmps := #[.int .u64 x, undef, .slice none 0 0, .pointer (some ⟨w.heap.size, 0, none⟩), .int .u8 (ub s.1 : Nat), .int .u64 x, .func (.func 145) #[] #[.pointer (some ⟨w.heap.size + 1, 0, none⟩)], .int .u8 (ub s.1 : Nat), undef, undef, undef, undef, undef], defers := [] })
  ?assign ?body ?iter ?done ?stop
 case assign =>
  intro l s W K hK
  gi_wp2
  exact hK
 case body =>
  rintro l ⟨y, d⟩ W ⟨hat, ⟨v, hv, hrow⟩, hnum, hB, hm⟩
  have hc := hv.cell
  have hdl := at_len hat
  simp only at hat hc hdl hrow hv
  gi_wp2_with (gi_at_builtin; refine wpListIn_append_own _ rfl _ _ 40 rfl w.heap.size 5 i0 (.int .u8 0) 1 1 Tryz.underlying40 hi hz0 hz1 hz2 rfl (by decide) _ _ _ rfl (hrow.alloc _) ⟨W.heap.size, 0, none⟩ 1 1 [.int .u8 (ub y : Nat)] rfl rfl (cell_one_new _ _ _) (by simp [Value.oneCell']) (by simp only [maxLen]; omega) (by omega) (by have := hB.size; simp; omega) ?_; intro v' w1 hown' hgrow _; obtain ⟨g', cap', rfl⟩ := ownsRow_succ hown'; obtain ⟨hv1, hv2, hr2, hk2, hb2⟩ := hv.appended (by decide) hrow hB.size (Nat.le_refl _) hown' hgrow; have hc1 := hv1.cell; have hf1 := hv1.frozen)
  have hg2 : (W.alloc (.cells #[.int .u8 (ub y : Nat)] 5)).grownBy w1 v.ownBlock := hgrow
  have hn2 : Boxed w1 (w.heap.size + 1) 30 (.int .u64 y) := (hnum.alloc _).kept hg2 (hnum.not_row (by decide) hrow)
  have hn3 := hn2.kept (grownBy_setCell' w1 w.heap.size (.slice (some ⟨g', 0, none⟩) (d.length + 1) cap')) (fun e => by injection e; omega)
  refine ⟨hk2, ⟨_, hv2, ?_⟩, hn3, hB.trans hb2, by have := hk2.size; omega⟩
  unfold BOwn
  rw [List.length_append, List.length_singleton, List.map_append]
  exact hr2
 case iter =>
  intro l o o' L L' ho ho' hLs hLd hY hl0
  refine (iter_in 8 (by omega) l (w.heap.size + 1) x hx
   (fun s W => At x s.1 s.2 ∧ US w W2.heap.size w.heap.size (w.heap.size + 1) s.1 s.2 W)
   (fun s W => At x s.1 s.2 ∧ US w W2.heap.size w.heap.size (w.heap.size + 1) s.1 s.2 W)
   (fun s W => At x s.1 s.2 ∧ US w W2.heap.size w.heap.size (w.heap.size + 1) s.1 (s.2 ++ [ub s.1]) W)
   (fun _ _ => False) L L'
   (fun s W h => ⟨⟨h.2.2.1.cell, h.2.2.1.frozen⟩, h.1.1⟩) (fun s W h => h) (fun s W h => ⟨h.2.2.1.cell, h.2.2.1.frozen⟩)
   (fun s W hy h => ⟨at_next h.1 hy, h.2.num (by omega) (by omega) _⟩)
   (fun W v h => hLs W ⟨w.heap.size + 1, 0, none⟩ v (by simp only []; omega) h) (fun s W h hl => hY s W h hl) _ ⟨at_start x hx, (u0.alloc (by omega) _).alloc (by omega) _⟩ hl0).mono ?_
  rintro e W' ⟨hv, ⟨⟨s, hs, ha, hu⟩, hl⟩ | ⟨c, hc, -⟩⟩
  ·exact ⟨hv, .inl ⟨⟨s.1, by rw [at_end ha hs] at hu; exact hu⟩, hl⟩⟩
  ·exact hc.elim
 case done =>
  rintro D W hD ⟨y, ⟨v, hv, hrow⟩, hnum, hB, hm⟩ hK
  have hc := hv.cell
  gi_wp2
  refine ⟨by simp, .inl ⟨_, _, rfl, run_takeDeferred hK, ?_⟩⟩
  exact ⟨_, results_tmp rfl _ _ _, v, rfl, ownsRow_putObj hrow _ hK rfl, FK _ hB (by omega) (by omega)⟩
 case stop =>
  rintro D c W hD h hK
  exact h.elim
end Bt
end Go.Proofs.YtfmnacebgplpcaaGreat
namespace Go.Proofs.YtfmnacebgplpcaaGreat
namespace Bt
open _root_.Go.Proofs.YtfmnacebgplpcaaGreat.Nm (Ds Df)
def bv (b : Nat) : Value := .int .u8 (b : Int)
def BIn (w : World) (v : Value) (l : List Nat) : Prop := (v = .slice none 0 0 ∧ l = []) ∨ ∃ ad cap, v = .slice (some ad) l.length cap ∧ l.length ≤ cap ∧ cap ≤ maxLen ∧ ad.block < w.heap.size ∧ ∀ j u, (l.map bv)[j]? = some u → w.cell? (ad.add j) = some u
theorem OY (a : Addr) (n : Nat) : (a.add n).block = a.block := by unfold Addr.add; split <;> rfl
theorem BIn.later {w w' : World} {v : Value} {l : List Nat} (h : BIn w v l) (hb : Below w.heap.size w w') : BIn w' v l := by
 rcases h with h | ⟨ad, cap, h1, h2, h3, h4, h5⟩
 ·exact .inl h
 ·exact .inr ⟨ad, cap, h1, h2, h3, Nat.lt_of_lt_of_le h4 hb.size, fun j u hu => (hb.cell (by rw [OY]; exact h4)).trans (h5 j u hu)⟩
theorem BOwn.read {w : World} {base : Nat} {v : Value} {l : List Nat} (h : BOwn w base v l) : BIn w v l := by
 rcases h.2 with ⟨h1, h2⟩ | ⟨g, cap, cur, q1, q2, q3, q4, q5, q6, q7⟩
 ·exact .inl ⟨h1, List.eq_nil_of_length_eq_zero h2⟩
 ·refine .inr ⟨_, cap, q1, q4, q5, (Array.getElem?_eq_some_iff.1 q3).1, fun j u hu => ?_⟩
  have hj : j < l.length := by have := (List.getElem?_eq_some_iff.1 hu).1; simpa using this
  have : cur[j]? = some u := by
   rw [← hu]
   have e : (l.map bv) = l.map (fun (b : Nat) => Value.int .u8 (b : Int)) := rfl
   rw [e, ← q7, List.getElem?_take_of_lt (by omega), Array.getElem?_toList]
  rw [show (⟨g, 0, none⟩ : Addr).add j = ⟨g, 0 + j, none⟩ from Go.WideShapes.add_plain .., Nat.zero_add]
  simp [World.cell?, q3, this]
theorem BOwn.later {w w' : World} {base : Nat} {v : Value} {l : List Nat} (h : BOwn w base v l) (hb : Below w.heap.size w w') : BOwn w' base v l := by
 refine ⟨h.1, ?_⟩
 rcases h.2 with h | ⟨g, cap, cur, q1, q2, q3, q4⟩
 ·exact .inl h
 ·exact .inr ⟨g, cap, cur, q1, q2, (hb.block g (Array.getElem?_eq_some_iff.1 q3).1).trans q3, q4⟩
theorem BOwn.base {w : World} {base base' : Nat} {v : Value} {l : List Nat} (h : BOwn w base v l) (hb : base' ≤ base) : BOwn w base' v l := by
 refine ⟨h.1, ?_⟩
 rcases h.2 with h | ⟨g, cap, cur, q1, q2, q3, q4⟩
 ·exact .inl h
 ·exact .inr ⟨g, cap, cur, q1, by omega, q3, q4⟩
theorem BOwn.row_ge {w : World} {base : Nat} {v : Value} {l : List Nat} (h : BOwn w base v l) : ∀ k, v.ownBlock = some k → base ≤ k := by
 intro k hk
 rcases h.2 with ⟨rfl, -⟩ | ⟨g, cap, cur, rfl, q2, -⟩
 ·cases hk
 ·cases hk; exact q2
theorem bv_one (l : List Nat) : ∀ u ∈ l.map bv, u.oneCell' = true := by
 intro u hu
 rw [List.mem_map] at hu
 obtain ⟨b, -, rfl⟩ := hu
 rfl
theorem FX {W : World} {base : Nat} (ty : TypeId) {v src : Value} {l m : List Nat} (hown : BOwn W base v l) (hs : BIn W src m) (hlen : l.length + m.length ≤ 35184372088832) (hbase : base ≤ W.heap.size) :
  ∃ v' W', (Builtin.append_ #[40, 40] ty #[v, src]).run Tryz.prog W = .ok v' W' ∧ BOwn W' base v' (l ++ m) ∧ W.grownBy W' v.ownBlock := by
 obtain ⟨i0, hi, hz0, hz1, hz2⟩ := info_parts Tryz.infoB
 rcases hs with ⟨rfl, rfl⟩ | ⟨ad, cap, rfl, h1, h2, h3, h4⟩
 ·refine ⟨v, W, run_append_owned_none (P := Tryz.prog) (w := W) base 40 ty 5 i0 1 Tryz.underlying40 hi v l.length _ hown, by simpa using hown, ⟨rfl, rfl, rfl, Nat.le_refl _, fun _ _ _ => rfl⟩⟩
 ·obtain ⟨v', W', hr, ho, hg, -, -⟩ := run_append_own_at (P := Tryz.prog) W base 40 ty 5 i0 (.int .u8 0) 1 1 Tryz.underlying40 hi hz0 hz1 hz2 rfl (by decide) v l.length _ hown ad m.length cap (m.map bv) (by simp) h4 (bv_one m) (by simp only [maxLen]; omega) (by omega) hbase
  refine ⟨v', W', hr, ?_, hg⟩
  unfold BOwn
  rw [List.length_append, List.map_append]
  exact ho
theorem Dd {ops : Array Oper} {rest : List Oper} {o : Oper} {a : Act} {Q : Exit → Act → World → Prop} (W : World) (hgd : o.guard = none) (s x : Operand)
  (ho : o.op = .call { callee := .builtin .append, args := #[s, x], argTypes := #[40, 40] }) (base : Nat) (v src : Value) (l m : List Nat) (hv : a.eval s = v) (hx : a.eval x = src) (hown : BOwn W base v l) (hs : BIn W src m) (hlen : l.length + m.length ≤ 35184372088832) (hbase : base ≤ W.heap.size)
  (h : ∀ v' W', BOwn W' base v' (l ++ m) → W.grownBy W' v.ownBlock → Below base W W' → wpList Tryz.prog ops Q rest (a.put o.dst v') W') : wpList Tryz.prog ops Q (o :: rest) a W := by
 obtain ⟨v', W', hr, h1, h2⟩ := FX o.type hown hs hlen hbase
 exact Lib.wpList_append_run W hgd s x _ _ ho v src hv hx v' W' hr (h v' W' h1 h2 ((Below.refl base W).grown h2 hbase hown.row_ge))
def sb (s : ByteArray) : List Nat := s.data.toList.map (·.toNat)
theorem Fi (s : ByteArray) : (sb s).length = s.size := by simp [sb]
theorem sb_cells (s : ByteArray) : Lib.strCells s = (sb s).map fun (b : Nat) => Value.int .u8 (b : Int) := by simp [sb, Lib.strCells]
theorem Gl (s : ByteArray) (hs : s.size ≤ 100000) (w : World) :
  Calls Tryz.prog 63 #[.string s] w fun e w' => ∃ v, e = .returned v ∧ BOwn w' w.heap.size v (Db 10 s.size ++ sb s) ∧ Below w.heap.size w w' := by
 obtain ⟨i0, hi, hz0, hz1, hz2⟩ := info_parts Tryz.infoB
 have HU := Lib.hid (Fdz s.size (by omega) w)
 have hl := Dh 10 s.size
 go_enter Tryz.func63, Tryz.ntmps63
 go_wp2_with fail
 refine HU.out.mono ?_
 rintro e w1 ⟨v, rfl, hown, hb⟩
 have HB := Lib.hid hb
 have hbs := hb.size
 clear hb HU
 go_wp2_with (at_builtin; refine Lib.wpList_append_own_string _ rfl _ _ 40 9 rfl w.heap.size 5 i0 Tryz.underlying40 Tryz.underlying9 hi hz0 hz1 hz2 v _ _ rfl hown s rfl (by simp only [maxLen]; omega) (by omega) hbs ?_; intro v2 w2 hown2 hg2 _)
 have HB2 := HB.out.grown hg2 hbs (fun k hk => hown.row_ge k hk)
 go_ret
 refine ⟨v2, rfl, ?_, HB2⟩
 unfold BOwn
 rw [List.length_append, Fi, List.map_append, ← sb_cells]
 exact hown2
theorem grow_any (n : Nat) (hn : n ≤ 35184372088832) (w : World) :
  Calls Tryz.prog 102 #[.slice none 0 0, .int .i64 n] w fun e w' => ∃ v, e = .returned v ∧ BOwn w' w.heap.size v [] ∧ Below w.heap.size w w' := by
 obtain ⟨i0, hi, hz0, hz1, hz2⟩ := info_parts Tryz.infoB
 rcases Nat.eq_zero_or_pos n with h0 | h0
 ·subst h0
  go_enter Tryz.func102, Tryz.ntmps102
  go_wp2_with fail
  go_ret
  exact ⟨_, rfl, GQ _ _, Below.refl _ _⟩
 ·have hr := Lib.run_append_nil_zeros (P := Tryz.prog) w 40 3 40 5 i0 (.int .u8 0) .i64 .i64 Tryz.underlying40 Tryz.underlying3 hi hz0 n h0 (by omega) (by omega) (by rw [hz2]; omega)
  have HR := Lib.hid hr
  obtain ⟨gc, hgc⟩ : ∃ gc, gc = grownCap w n 0 5 := ⟨_, rfl⟩
  have hge : n ≤ gc := by rw [hgc]; exact grownCap_ge ..
  have hle : gc ≤ maxLen := by rw [hgc]; exact grownCap_le_maxLen _ _ _ _ (by simp only [maxLen]; omega)
  rw [← hgc] at HR
  clear hr hgc
  have hle2 := hle
  simp only [maxLen] at hle2
  go_enter Tryz.func102, Tryz.ntmps102
  go_wp2_with (at_builtin; refine Lib.wpList_append_run _ rfl _ _ _ _ rfl _ _ rfl rfl _ _ HR.out ?_)
  go_ret
  refine ⟨_, rfl, ⟨rfl, .inr ⟨w.heap.size, gc, _, rfl, Nat.le_refl _, heap_alloc_new w.drew _, Nat.zero_le _, hle, ?_, rfl⟩⟩, (Below.refl _ _).drew.alloc (Nat.le_refl _) _⟩
  simp only [Array.size_append, size_zeroCells]
  show n * 1 + (gc - n) * 1 = gc * 1
  omega
def PIn (w : World) (A : Option Addr) (cap : Nat) (ls : List (List Nat)) : Prop := ls.length ≤ cap ∧ cap ≤ maxLen ∧ (0 < ls.length → ∃ b off, A = some ⟨b, off, none⟩ ∧ b < w.heap.size ∧ ∀ i (h : i < ls.length), ∃ v, w.cell? ⟨b, off + i, none⟩ = some v ∧ BIn w v ls[i])
theorem PIn.later {w w' : World} {A : Option Addr} {cap : Nat} {ls : List (List Nat)} (h : PIn w A cap ls) (hb : Below w.heap.size w w') : PIn w' A cap ls := ⟨h.1, h.2.1, fun hp => by
 obtain ⟨b, off, hA, hlt, h3⟩ := h.2.2 hp
 refine ⟨b, off, hA, Nat.lt_of_lt_of_le hlt hb.size, fun i hi => ?_⟩
 obtain ⟨v, h4, h5⟩ := h3 i hi
 exact ⟨v, (hb.cell (p := ⟨b, _, none⟩) hlt).trans h4, h5.later hb⟩⟩
theorem BIn.form {w : World} {v : Value} {l : List Nat} (h : BIn w v l) : ∃ A cap, v = .slice A l.length cap := by
 rcases h with ⟨rfl, rfl⟩ | ⟨ad, cap, rfl, -⟩
 ·exact ⟨none, 0, rfl⟩
 ·exact ⟨some ad, cap, rfl⟩
theorem UP (ls : List (List Nat)) (j : Nat) (h : j < ls.length) : (ls.take (j + 1)).flatten = (ls.take j).flatten ++ ls[j] := by
 rw [List.take_succ_eq_append_getElem h, List.flatten_append]; simp
theorem PB (ls : List (List Nat)) (j : Nat) : (ls.take j).flatten.length ≤ ls.flatten.length := by
 have : (ls.take j ++ ls.drop j).flatten.length = ls.flatten.length := by rw [List.take_append_drop]
 rw [List.flatten_append, List.length_append] at this
 omega
def Up (ls : List (List Nat)) (j : Nat) : Nat := (ls.take j).flatten.length
theorem Om (ls : List (List Nat)) (A : Option Addr) (cap : Nat) (w : World) (h : PIn w A cap ls) (hn : ls.flatten.length ≤ 35184372088832) (hl0 : ls.length ≤ 35184372088832) :
  Calls Tryz.prog 62 #[.slice A ls.length cap] w fun e w' => ∃ v, e = .returned v ∧ BOwn w' w.heap.size v ls.flatten ∧ Below w.heap.size w w' := by
 have hl := h.1
 have hc := h.2.1
 simp only [maxLen] at hc
 have HK := Lib.hid h; clear h
 go_enter Tryz.func62, Tryz.ntmps62
 go_wp2_with fail
 go_loop [3, 11] (fun n i => ∃ (j : Nat), j ≤ ls.length ∧ i = .int .i64 j ∧ n = .int .i64 (Up ls j : Nat)) (fun _ i => ls.length - (intOf i).toNat)
 case atStart => exact ⟨0, by omega, rfl, rfl⟩
 case round =>
  obtain ⟨j, hj, rfl, rfl⟩ := hrel
  by_cases hlt : j < ls.length
  ·obtain ⟨b, off, rfl, hbl, h3⟩ := HK.out.2.2 (by omega)
   obtain ⟨v, hv, hin⟩ := h3 j hlt
   obtain ⟨A', cap', rfl⟩ := hin.form
   have hf := UP ls j hlt
   have hm := PB ls (j + 1)
   rw [hf, List.length_append] at hm
   have HF : Hid (Up ls (j + 1) = Up ls j + ls[j].length) := Lib.hid (by unfold Up; rw [hf, List.length_append])
   have hm2 : Up ls j + ls[j].length ≤ 35184372088832 := by unfold Up; omega
   generalize Up ls j = a at *
   generalize ls[j].length = c at *
   clear h3 hin hf hm
   go_wp2_with fail
   exact ⟨⟨j + 1, by omega, by go_num, by rw [HF.out]; go_num⟩, by simp [intOf]; omega⟩
  ·have hj' : j = ls.length := by omega
   subst hj'
   have hp : Up ls ls.length ≤ 35184372088832 := by unfold Up; rw [List.take_length]; exact hn
   generalize Up ls ls.length = N at *
   have HG := Lib.hid (grow_any N (by omega) w)
   go_wp2_with fail
   refine HG.out.mono ?_
   rintro e w1 ⟨v0, rfl, hown0, hb0⟩
   have HO := Lib.hid hown0
   have HB0 := Lib.hid hb0
   clear hown0 hb0 HG
   go_wp2_with fail
   go_loopw [6, 27] (fun o i wr => ∃ (j : Nat), j ≤ ls.length ∧ i = .int .i64 j ∧ BOwn wr w.heap.size o (ls.take j).flatten ∧ Below w.heap.size w wr) (fun _ i _ => ls.length - (intOf i).toNat)
   case atStart => exact ⟨0, by omega, rfl, HO.out, HB0.out⟩
   case round =>
    obtain ⟨j, hj, rfl, hown, hb⟩ := hrel
    by_cases hlt : j < ls.length
    ·obtain ⟨b, off, rfl, hbl, h3⟩ := (HK.out.later hb).2.2 (by omega)
     obtain ⟨v, hv, hin⟩ := h3 j hlt
     have hf := UP ls j hlt
     have hm := PB ls (j + 1)
     rw [hf, List.length_append] at hm
     have hbs := hb.size
     have HB := Lib.hid hb
     clear h3 hb
     go_wp2_with (at_builtin; refine Dd _ rfl _ _ rfl w.heap.size _ v (ls.take j).flatten ls[j] rfl rfl hown hin (by omega) hbs ?_; intro v2 w2 hown2 hg2 hb2)
     rw [← hf] at hown2
     have HO2 := Lib.hid hown2
     have HB2 := Lib.hid (HB.out.trans hb2)
     clear hown2 hb2
     go_wp2_with fail
     exact ⟨⟨j + 1, by omega, by go_num, HO2.out, HB2.out⟩, by simp [intOf]; omega⟩
    ·have hj' : j = ls.length := by omega
     subst hj'
     rw [List.take_length] at hown
     go_wp2_with fail
     go_ret
     exact ⟨_, rfl, hown, hb⟩
end Bt
namespace Pf
open _root_.Go.Proofs.YtfmnacebgplpcaaGreat.Nm (Di)
open Vt (VT)
open Bt (Db sb Fi)
def Dp (s : ByteArray) : List Nat := Db 10 s.size ++ sb s
def zz (n : Int) : Nat := if 0 ≤ n then (2 * n).toNat else (-2 * n - 1).toNat
theorem VG {n : Int} (h0 : -9223372036854775808 ≤ n) (h1 : n ≤ 9223372036854775807) : zz n < 18446744073709551616 := by unfold zz; split <;> omega
def be8 (v : Nat) : List Nat := [v / 72057594037927936 % 256, v / 281474976710656 % 256, v / 1099511627776 % 256, v / 4294967296 % 256, v / 16777216 % 256, v / 65536 % 256, v / 256 % 256, v % 256]
def VT.form (t : VT) : List Nat := t.fold fun k n f s r => Db 10 k.toNat ++ (if k = 1 then Db 10 (zz n) else if k = 2 then be8 (Di f) else if k = 3 then Dp s else if k = 4 then Db 10 r.length ++ r.flatten else [])
theorem Oj (k n : Int) (f : Nat) (s : ByteArray) (l : List VT) : VT.form (.mk k n f s l) = Db 10 k.toNat ++ (if k = 1 then Db 10 (zz n) else if k = 2 then be8 (Di f) else if k = 3 then Dp s else if k = 4 then Db 10 l.length ++ (l.map VT.form).flatten else []) := by
 unfold VT.form; rw [VT.fold, List.length_map]
def VT.fine (t : VT) : Prop := t.fold (α := Prop) fun k n f s r => (-9223372036854775808 ≤ n ∧ n ≤ 9223372036854775807 ∧ f < 18446744073709551616 ∧ s.size < 18446744073709551616 ∧ r.length < 18446744073709551616) ∧ ∀ p ∈ r, p
theorem Sk {k n : Int} {f : Nat} {s : ByteArray} {l : List VT} : VT.fine (.mk k n f s l) ↔ (-9223372036854775808 ≤ n ∧ n ≤ 9223372036854775807 ∧ f < 18446744073709551616 ∧ s.size < 18446744073709551616 ∧ l.length < 18446744073709551616) ∧ ∀ t ∈ l, VT.fine t := by
 unfold VT.fine; rw [VT.fold, List.length_map]
 simp only [List.mem_map, forall_exists_index, and_imp, forall_apply_eq_imp_iff₂]
theorem Rep.fine {w : World} {lo hi : Nat} {t : VT} : ∀ {v : Value}, Vt.Rep w lo hi t v → VT.fine t := by
 induction t using VT.ind with
 | _ k n f s l ih =>
  intro v h
  obtain ⟨A, cap, rfl, ho, hl, hk⟩ := h.head
  obtain ⟨k0, k1, n0, n1, f1, s1, m1⟩ := ho
  simp only [maxLen] at s1 m1
  refine Sk.2 ⟨⟨n0, n1, f1, by omega, by omega⟩, fun t ht => ?_⟩
  obtain ⟨i, hi, rfl⟩ := List.getElem_of_mem ht
  obtain ⟨b, off, -, -, -, h3⟩ := hk.at_ (by omega)
  obtain ⟨_, _, _, _, _, _, _, -, -, -, -, -, -, hr⟩ := h3 i hi
  exact ih i hi hr
theorem FM {k n : Int} {f : Nat} {s : ByteArray} {l : List VT} {d : Nat} (h : (VT.mk k n f s l).valid d = true) :
  (k = 0 ∧ n = 0 ∧ Di f = 0 ∧ s.size = 0 ∧ l = []) ∨ (k = 1 ∧ Di f = 0 ∧ s.size = 0 ∧ l = []) ∨ (k = 2 ∧ n = 0 ∧ s.size = 0 ∧ l = []) ∨ (k = 3 ∧ n = 0 ∧ Di f = 0 ∧ l = []) ∨ (k = 4 ∧ n = 0 ∧ Di f = 0 ∧ s.size = 0 ∧ ∀ t ∈ l, t.valid (d - 1) = true) := by
 rw [Vt.GE] at h
 simp only [Bool.and_eq_true, Bool.or_eq_true, decide_eq_true_iff, beq_iff_eq, bne_iff_ne, List.all_eq_true, List.length_eq_zero_iff] at h
 obtain ⟨⟨⟨⟨⟨⟨⟨h0, h1⟩, h2⟩, h3⟩, h4⟩, h5⟩, h6⟩, h7⟩ := h
 rcases (by omega : k = 0 ∨ k = 1 ∨ k = 2 ∨ k = 3 ∨ k = 4) with rfl | rfl | rfl | rfl | rfl
 ·exact .inl ⟨rfl, by simpa using h2, by simpa using h3, by simpa using h4, by simpa using h5⟩
 ·exact .inr (.inl ⟨rfl, by simpa using h3, by simpa using h4, by simpa using h5⟩)
 ·exact .inr (.inr (.inl ⟨rfl, by simpa using h2, by simpa using h4, by simpa using h5⟩))
 ·exact .inr (.inr (.inr (.inl ⟨rfl, by simpa using h2, by simpa using h3, by simpa using h5⟩)))
 ·exact .inr (.inr (.inr (.inr ⟨rfl, by simpa using h2, by simpa using h3, by simpa using h4, h7⟩)))
theorem UG {s : ByteArray} (h : s.size = 0) : s = ⟨#[]⟩ := by
 apply ByteArray.ext
 apply Array.eq_empty_of_size_eq_zero
 exact h
theorem YJ {k n : Int} {f f' : Nat} {s : ByteArray} {l l' : List VT} (hf : Di f = Di f') (hl : l.length = l'.length) (h : ∀ (i : Nat) (hi : i < l.length) (hi' : i < l'.length), l[i].same l'[i] = true) : (VT.mk k n f s l).same (.mk k n f' s l') = true :=
 (Vt.GI ..).2 ⟨rfl, rfl, rfl, hf, hl, h⟩
theorem Kc {f : Nat} (h : f < 18446744073709551616) : Di f < 18446744073709551616 := by
 unfold Di _root_.Go.Proofs.YtfmnacebgplpcaaGreat.Nm.Oa; split <;> omega
end Pf
namespace Rd
open Bt (Db sb)
def nf : (f i x : Nat) → List Nat → Option (Nat × Nat)
 | 0, _, _, _ => none
 | _ + 1, _, _, [] => none
 | f + 1, i, x, c :: l => if i = 9 ∧ 1 < c % 128 then none else if c < 128 then (if 0 < i ∧ c % 128 = 0 then none else some (x + c % 128 * 128 ^ i, i + 1)) else nf f (i + 1) (x + c % 128 * 128 ^ i) l
def num (l : List Nat) : Option (Nat × Nat) := nf 10 0 0 l
def pk : (f i x : Nat) → List Nat → Nat × Nat
 | 0, _, x, _ => (x, 0)
 | _ + 1, _, x, [] => (x, 0)
 | f + 1, i, x, c :: l => if c < 128 then (x ||| (c % 128 * 128 ^ i) % 18446744073709551616, i + 1) else pk f (i + 1) (x ||| (c % 128 * 128 ^ i) % 18446744073709551616) l
theorem p128 (i : Nat) : 0 < 128 ^ i := Nat.pow_pos (by omega)
theorem p128s (i : Nat) : 128 ^ (i + 1) = 128 ^ i * 128 := Nat.pow_succ ..
theorem or_add {x i d : Nat} (h : x < 128 ^ i) : x ||| d * 128 ^ i = x + d * 128 ^ i := by
 have e : (128 : Nat) ^ i = 2 ^ (7 * i) := by rw [show (128 : Nat) = 2 ^ 7 from rfl, ← Nat.pow_mul]
 rw [e] at h ⊢
 have := Nat.two_pow_add_eq_or_of_lt h d
 rw [Nat.mul_comm d, Nat.add_comm, this, Nat.or_comm]
theorem Ps {F z : Nat} (h : z < 128) : Db F z = [z] := by
 cases F with
 | zero => rfl
 | succ F => simp [Db, h]
theorem nf_some (f : Nat) : ∀ (i x : Nat) (l : List Nat) (y m : Nat), f + i = 10 → x < 128 ^ i → (∀ b ∈ l, b < 256) → nf f i x l = some (y, m) →
  ∃ z r, y = x + z * 128 ^ i ∧ l = Db f z ++ r ∧ m = i + (Db f z).length ∧ (0 < z ∨ i = 0) ∧ y < 18446744073709551616 := by
 induction f with
 | zero => intro i x l y m _ _ _ h; simp [nf] at h
 | succ f ih =>
  intro i x l y m hi hx hb h
  cases l with
  | nil => simp [nf] at h
  | cons c l =>
   have hc : c < 256 := hb c (by simp)
   rw [nf] at h
   by_cases h9 : i = 9 ∧ 1 < c % 128
   ·rw [if_pos h9] at h; cases h
   ·rw [if_neg h9] at h
    have hp := p128 i
    have hps := p128s i
    by_cases h1 : c < 128
    ·rw [if_pos h1] at h
     by_cases h0 : 0 < i ∧ c % 128 = 0
     ·rw [if_pos h0] at h; cases h
     ·rw [if_neg h0] at h
      injection h with h
      injection h with h2 h3
      have hm : c % 128 = c := Nat.mod_eq_of_lt h1
      rw [hm] at h2 h9 h0
      refine ⟨c, l, h2.symm, by rw [Ps h1]; rfl, by rw [Ps h1]; exact h3.symm, by omega, ?_⟩
      rw [← h2]
      have q9 : (128 : Nat) ^ 9 = 9223372036854775808 := by decide
      by_cases hi9 : i = 9
      ·have hc1 : c ≤ 1 := by
        rcases Nat.lt_or_ge 1 c with h | h
        ·exact absurd ⟨hi9, h⟩ h9
        ·exact h
       rw [hi9] at hx ⊢
       have := Nat.mul_le_mul_right (128 ^ 9) hc1
       omega
      ·have hle : (128 : Nat) ^ i ≤ 128 ^ 8 := Nat.pow_le_pow_right (by omega) (by omega)
       have q8 : (128 : Nat) ^ 8 = 72057594037927936 := by decide
       have := Nat.mul_le_mul (show c ≤ 127 by omega) hle
       omega
    ·rw [if_neg h1] at h
     have hd : c % 128 < 128 := Nat.mod_lt _ (by omega)
     have hx' : x + c % 128 * 128 ^ i < 128 ^ (i + 1) := by
      have := Nat.mul_le_mul_right (128 ^ i) (show c % 128 ≤ 127 by omega)
      rw [hps]; omega
     obtain ⟨z, r, e1, e2, e3, e4, e5⟩ := ih (i + 1) _ l y m (by omega) hx' (fun b h => hb b (List.mem_cons_of_mem _ h)) h
     have hz : 0 < z := e4.resolve_right (by omega)
     have hz2 : ¬ (c % 128 + 128 * z < 128) := by omega
     have hu : Db (f + 1) (c % 128 + 128 * z) = c :: Db f z := by
      rw [Db, if_neg hz2, show (c % 128 + 128 * z) % 128 + 128 = c by omega, show (c % 128 + 128 * z) / 128 = z by omega]
     refine ⟨c % 128 + 128 * z, r, ?_, by rw [hu, e2]; rfl, by rw [hu, e3, List.length_cons]; omega, .inl (by omega), e5⟩
     rw [e1, hps, Nat.add_mul, Nat.add_assoc, Nat.mul_comm 128 z, Nat.mul_assoc, Nat.mul_comm 128 (128 ^ i)]
theorem M108 (h : p := by
 intro i x z r hi hx hz h
 exfalso
 obtain rfl : i = 10 := by omega
 have : (128 : Nat) ^ 10 = 1180591620717411303424 := by decide
 have := Nat.mul_le_mul_right (128 ^ 10) (show 1 ≤ z by omega)
 omega) : p := h
theorem M167 (h : p := by
 rw [hps, ← Nat.mul_assoc, Nat.mul_right_comm, Nat.add_assoc, ← Nat.add_mul]
 congr 2
 omega) : p := h
theorem M178 (h : p := by
 have := Nat.mul_le_mul_right (128 ^ i) (show z % 128 ≤ 127 by omega)
 rw [hps]; omega) : p := h
theorem Q669.Y668 (h : p := by
 show nf (f + 1) i x ((z % 128 + 128) :: (Db f (z / 128) ++ r)) = _
 have hx' : x + z % 128 * 128 ^ i < 128 ^ (i + 1) := by
  exact M178
 rw [nf, hdm, if_neg, if_neg (by omega), ih (i + 1) _ (z / 128) r (by omega) hx' (.inl (by omega)) (by rw [hsum]; exact h), hsum, List.length_cons]
 ·congr 2; omega
 ·rintro ⟨rfl, h2⟩
  have : (128 : Nat) ^ 9 = 9223372036854775808 := by decide
  have := Nat.mul_le_mul_right (128 ^ 9) (show 128 ≤ z by omega)
  omega) : p := h
theorem M668 (h : p := by
 have hu : Db (f + 1) z = (z % 128 + 128) :: Db f (z / 128) := by rw [Db, if_neg h1]
 have hdm : (z % 128 + 128) % 128 = z % 128 := by omega
 have hsum : x + z % 128 * 128 ^ i + z / 128 * 128 ^ (i + 1) = x + z * 128 ^ i := by
  exact M167
 rw [hu]
 exact Y668) : p := h
theorem nf_form (f : Nat) : ∀ (i x z : Nat) (r : List Nat), f + i = 10 → x < 128 ^ i → (0 < z ∨ i = 0) → x + z * 128 ^ i < 18446744073709551616 → nf f i x (Db f z ++ r) = some (x + z * 128 ^ i, i + (Db f z).length) := by
 induction f with
 | zero =>
  exact M108
 | succ f ih =>
  intro i x z r hi hx hz h
  have hp := p128 i
  have hps := p128s i
  by_cases h1 : z < 128
  ·rw [Ps h1]
   show nf (f + 1) i x (z :: r) = _
   have hm : z % 128 = z := Nat.mod_eq_of_lt h1
   rw [nf, hm, if_neg, if_pos h1, if_neg (by omega)]
   ·rfl
   ·rintro ⟨rfl, h2⟩
    have : (128 : Nat) ^ 9 = 9223372036854775808 := by decide
    have := Nat.mul_le_mul_right (128 ^ 9) h2
    omega
  ·open Q669 in exact M668
theorem Q670.Y668 (h : p := by
 show pk (f + 1) i x ((z % 128 + 128) :: (Db f (z / 128) ++ r)) = _
 have hx' : x + z % 128 * 128 ^ i < 128 ^ (i + 1) := by
  exact M178
 rw [pk, hdm, if_neg (by omega), Nat.mod_eq_of_lt (by omega), or_add hx, ih (i + 1) _ (z / 128) r (by omega) hx' (.inl (by omega)) (by rw [hsum]; exact h), hsum, List.length_cons]
 congr 1; omega) : p := h
theorem pk_form (f : Nat) : ∀ (i x z : Nat) (r : List Nat), f + i = 10 → x < 128 ^ i → (0 < z ∨ i = 0) → x + z * 128 ^ i < 18446744073709551616 → pk f i x (Db f z ++ r) = (x + z * 128 ^ i, i + (Db f z).length) := by
 induction f with
 | zero =>
  exact M108
 | succ f ih =>
  intro i x z r hi hx hz h
  have hp := p128 i
  have hps := p128s i
  by_cases h1 : z < 128
  ·rw [Ps h1]
   show pk (f + 1) i x (z :: r) = _
   have hm : z % 128 = z := Nat.mod_eq_of_lt h1
   rw [pk, hm, if_pos h1, Nat.mod_eq_of_lt (by omega), or_add hx]
   rfl
  ·open Q670 in exact M668
theorem XF {l : List Nat} (hb : ∀ b ∈ l, b < 256) {x n : Nat} (h : num l = some (x, n)) : x < 18446744073709551616 ∧ n = (Db 10 x).length ∧ l = Db 10 x ++ l.drop n ∧ n ≤ l.length ∧ 0 < n := by
 obtain ⟨z, r, e1, e2, e3, -, e5⟩ := nf_some 10 0 0 l x n (by omega) (by decide) hb h
 simp only [Nat.pow_zero, Nat.mul_one, Nat.zero_add] at e1 e3
 subst e1
 refine ⟨e5, e3, ?_, by rw [e2, List.length_append, ← e3]; omega, ?_⟩
 ·rw [e3, e2, List.drop_left]
 ·rw [e3]; unfold Db; split <;> simp
theorem num_form {x : Nat} (hx : x < 18446744073709551616) (r : List Nat) : num (Db 10 x ++ r) = some (x, (Db 10 x).length) := by
 have h := nf_form 10 0 0 x r (by omega) (by decide) (.inr rfl) (by simpa using hx)
 unfold num
 simpa using h
theorem pk_lt (f : Nat) : ∀ (i x : Nat) (l : List Nat), x < 18446744073709551616 → (pk f i x l).1 < 18446744073709551616 := by
 induction f with
 | zero => intro i x l h; exact h
 | succ f ih =>
  intro i x l h
  have hor : ∀ y, x ||| y % 18446744073709551616 < 18446744073709551616 := fun y => Nat.or_lt_two_pow (n := 64) h (Nat.mod_lt _ (by omega))
  cases l with
  | nil => exact h
  | cons c l =>
   rw [pk]
   split
   ·exact hor _
   ·exact ih _ _ _ (hor _)
theorem Xx {l : List Nat} (hb : ∀ b ∈ l, b < 256) : num l = if (pk 10 0 0 l).2 = 0 ∨ Db 10 (pk 10 0 0 l).1 ≠ l.take (pk 10 0 0 l).2 then none else some (pk 10 0 0 l) := by
 cases h : num l with
 | some p =>
  obtain ⟨x, n⟩ := p
  obtain ⟨h1, h2, h3, h4, h5⟩ := XF hb h
  have hp := pk_form 10 0 0 x (l.drop n) (by omega) (by decide) (.inr rfl) (by simpa using h1)
  simp only [Nat.pow_zero, Nat.mul_one, Nat.zero_add] at hp
  rw [← h3, ← h2] at hp
  rw [hp]
  have ht : l.take n = Db 10 x := by
   conv => lhs; rw [h3]
   rw [h2, List.take_left]
  rw [if_neg]
  rintro (h6 | h6)
  ·simp at h6; omega
  ·exact h6 ht.symm
 | none =>
  split
  ·rfl
  ·rename_i hh
   exfalso
   obtain ⟨q1, q2⟩ := not_or.1 hh
   have q3 : Db 10 (pk 10 0 0 l).1 = l.take (pk 10 0 0 l).2 := Classical.not_not.1 q2
   have e : l = Db 10 (pk 10 0 0 l).1 ++ l.drop (pk 10 0 0 l).2 := by rw [q3, List.take_append_drop]
   rw [e, num_form (pk_lt 10 0 0 l (by omega))] at h
   cases h
end Rd
end Go.Proofs.YtfmnacebgplpcaaGreat
