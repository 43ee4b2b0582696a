/- event.Text of a valid event whose parts' texts are known. -/
/- event.Text of a valid event whose parts' texts are known. -/
/- clockworklaw11's alive. -/
import Derived.Test.YtjfhnkhabipbdaaGreatDoorMjam
import Derived.Shelf.Strings.OnBuilder
namespace Go.Proofs.YtjfhnkhabipbdaaGreatDoor
open Go.RowKit Go.Shelf
set_option linter.unusedVariables false

def Tryz.laysJoin_ren : Go.Shelf.Ren := ⟨fun | 156 => 44 | 165 => 63 | 166 => 64 | 169 => 65 | 240 => 81 | 241 => 82 | 276 => 92 | 277 => 93 | n => n, fun | 31 => 69 | 9 => 9 | 3 => 3 | 4 => 4 | 0 => 0 | 20 => 20 | 72 => 89 | 76 => 93 | 70 => 87 | 37 => 79 | 75 => 92 | 127 => 116 | 164 => 121 | 5 => 5 | 80 => 95 | n => n, fun | n => n⟩
theorem Tryz.laysJoin : Go.Proofs.Lays.n156 Tryz.prog Tryz.laysJoin_ren := {
  mixed := by kernel_rfl
  f156 := Tryz.func44.trans (congrArg some (by kernel_rfl))
  f165 := Tryz.func63.trans (congrArg some (by kernel_rfl))
  f166 := Tryz.func64.trans (congrArg some (by kernel_rfl))
  f169 := Tryz.func65.trans (congrArg some (by kernel_rfl))
  f240 := Tryz.func81.trans (congrArg some (by kernel_rfl))
  f241 := Tryz.func82.trans (congrArg some (by kernel_rfl))
  f276 := Tryz.func92.trans (congrArg some (by kernel_rfl))
  f277 := Tryz.func93.trans (congrArg some (by kernel_rfl))
  t0 := Tryz.underlying0
  a0 := Tryz.isAgg0
  z0 := Tryz.sizeOf0
  v0 := Tryz.zeroValue0
  t3 := Tryz.underlying3
  a3 := Tryz.isAgg3
  z3 := Tryz.sizeOf3
  v3 := Tryz.zeroValue3
  t4 := Tryz.underlying4
  a4 := Tryz.isAgg4
  z4 := Tryz.sizeOf4
  v4 := Tryz.zeroValue4
  t9 := Tryz.underlying9
  a9 := Tryz.isAgg9
  z9 := Tryz.sizeOf9
  v9 := Tryz.zeroValue9
  t20 := Tryz.underlying20
  a20 := Tryz.isAgg20
  z20 := Tryz.sizeOf20
  v20 := Tryz.zeroValue20
  t31 := Tryz.underlying69
  a31 := Tryz.isAgg69
  z31 := Tryz.sizeOf69
  v31 := Tryz.zeroValue69
  t37 := Tryz.underlying79
  a37 := Tryz.isAgg79
  z37 := Tryz.sizeOf79
  v37 := Tryz.zeroValue79
  t70 := Tryz.underlying87
  a70 := Tryz.isAgg87
  z70 := Tryz.sizeOf87
  v70 := Tryz.zeroValue87
  t72 := Tryz.underlying89
  a72 := Tryz.isAgg89
  z72 := Tryz.sizeOf89
  v72 := Tryz.zeroValue89
  t75 := Tryz.underlying92
  a75 := Tryz.isAgg92
  z75 := Tryz.sizeOf92
  v75 := Tryz.zeroValue92
  t76 := Tryz.underlying93
  a76 := Tryz.isAgg93
  z76 := Tryz.sizeOf93
  v76 := Tryz.zeroValue93
  t127 := Tryz.underlying116
  a127 := Tryz.isAgg116
  z127 := Tryz.sizeOf116
  v127 := Tryz.zeroValue116
  t164 := Tryz.underlying121
  a164 := Tryz.isAgg121
  z164 := Tryz.sizeOf121
  v164 := Tryz.zeroValue121 }

theorem Tryz.extraJoin : Builder.Extra Tryz.prog Tryz.laysJoin_ren := {
  sizeBuilder := by kernel_rfl
  liesBuilder := by kernel_rfl
  t5 := by kernel_rfl
  a5 := by first | exact Tryz.isAgg5 | (intro w; rfl)
  z5 := by first | exact Tryz.sizeOf5 | (intro w; rfl)
  v5 := by first | exact Tryz.zeroValue5 | (intro w; rfl)
  infoByte := by kernel_rfl
  cellsByte := by kernel_rfl
  sizeByte := by kernel_rfl
  neB5 := by decide }

namespace Bt
open Vt (VT Rep BoxAt below_drew)
open Ev (take_drop tk cons_drop EBox six_cells six_row RowAt ix0 ix1 ix2 ix3 ix4 ix5)

/-- A slice of strings in a row of the call's own. -/
def SOwn (w : World) (base : Nat) (v : Value) (l : List ByteArray) : Prop := w.ownsRow base 9 1 v l.length (l.map Value.string)
theorem Tryz.infoS : (Tryz.prog.info? 9).map (fun i => (i.zero, i.size, i.bytes)) = some (some (.string ⟨#[]⟩), 1, 16) := by kernel_rfl
theorem SOwn.later {w w' : World} {base : Nat} {v : Value} {l : List ByteArray} (h : SOwn w base v l) (hb : Below w.heap.size w w') : SOwn w' base v l := by
  refine ⟨h.1, ?_⟩
  rcases h.2 with h | ⟨g, cap, cur, q1, q2, q3, q4⟩
  · exact .inl h
  · exact .inr ⟨g, cap, cur, q1, q2, (hb.block g (Array.getElem?_eq_some_iff.1 q3).1).trans q3, q4⟩
theorem SOwn.row_ge {w : World} {base : Nat} {v : Value} {l : List ByteArray} (h : SOwn w base v l) : ∀ k, v.ownBlock = some k → base ≤ k := by
  intro k hk
  rcases h.2 with ⟨rfl, -⟩ | ⟨g, cap, cur, rfl, q2, -⟩
  · cases hk
  · cases hk; exact q2
/-- One string onto a row. -/
theorem run_append_str {W : World} {base : Nat} (ty : TypeId) {v : Value} {l : List ByteArray} {x : ByteArray} (g c : Nat) (hx : W.cell? ⟨g, 0, none⟩ = some (.string x)) (hown : SOwn W base v l) (hlen : l.length ≤ 1000000) (hbase : base ≤ W.heap.size) :
    ∃ v' W', (Builtin.append_ #[69, 69] ty #[v, .slice (some ⟨g, 0, none⟩) 1 c]).run Tryz.prog W = .ok v' W' ∧ SOwn W' base v' (l ++ [x]) ∧ W.grownBy W' v.ownBlock := by
  obtain ⟨i0, hi, hz0, hz1, hz2⟩ := info_parts Tryz.infoS
  obtain ⟨v', W', hr, ho, hg, -, -⟩ := run_append_own_at (P := Tryz.prog) W base 69 ty 9 i0 (.string ⟨#[]⟩) 1 16 Tryz.underlying69 hi hz0 hz1 hz2 rfl (by decide) v l.length _ hown ⟨g, 0, none⟩ 1 c [.string x] (by simp) (fun j u hu => by
    rcases j with _ | j
    · have : Value.string x = u := by simpa using hu
      rw [← this]; exact hx
    · simp at hu) (by intro u hu; rw [List.mem_singleton] at hu; subst hu; rfl) (by simp only [maxLen]; omega) (by omega) hbase
  refine ⟨v', W', hr, ?_, hg⟩
  unfold SOwn
  rw [List.length_append, List.map_append]
  exact ho
theorem wpList_append_str {ops : Array Oper} {rest : List Oper} {o : Oper} {a : Act} {Q : Exit → Act → World → Prop} (W : World) (hgd : o.guard = none) (s y : Operand)
    (ho : o.op = .call { callee := .builtin .append, args := #[s, y], argTypes := #[69, 69] }) (base : Nat) (v : Value) (g c : Nat) (l : List ByteArray) (x : ByteArray) (hv : a.eval s = v) (hy : a.eval y = .slice (some ⟨g, 0, none⟩) 1 c) (hx : W.cell? ⟨g, 0, none⟩ = some (.string x)) (hown : SOwn W base v l) (hlen : l.length ≤ 1000000) (hbase : base ≤ W.heap.size)
    (h : ∀ v' W', SOwn W' base v' (l ++ [x]) → W.grownBy W' v.ownBlock → Below base W W' → wpList Tryz.prog ops Q rest (a.put o.dst v') W') : wpList Tryz.prog ops Q (o :: rest) a W := by
  obtain ⟨v', W', hr, h1, h2⟩ := run_append_str o.type g c hx hown hlen hbase
  exact Lib.wpList_append_run W hgd s y _ _ ho v _ hv hy v' W' hr (h v' W' h1 h2 ((Below.refl base W).grown h2 hbase hown.row_ge))

/-- Those texts that a kind has, of the first j. -/
def selS (bs : List Bool) (ps : List ByteArray) (j : Nat) : List ByteArray := (((bs.zip ps).take j).map (fun p => if p.1 then [p.2] else [])).flatten
theorem selS_len : ∀ (bs : List Bool) (ps : List ByteArray) (j : Nat), (selS bs ps j).length ≤ ps.length
  | [], _, _ => by simp [selS]
  | _ :: _, [], _ => by simp [selS]
  | _ :: _, _ :: _, 0 => by simp [selS]
  | b :: bs, p :: ps, j + 1 => by have := selS_len bs ps j; simp only [selS] at this ⊢; simp only [List.zip_cons_cons, List.take_succ_cons, List.map_cons, List.flatten_cons, List.length_append, List.length_cons]; cases b <;> simp only [Bool.false_eq_true, if_true, if_false, List.length_nil, List.length_singleton] <;> omega

/-- Strings joined by a blank. -/
theorem join_any (l : List ByteArray) (v : Value) (base : Nat) (w : World) (hown : SOwn w base v l) (h0 : l ≠ []) (hn : l.length ≤ 1000000) (hlen : (Lib.join (l.map (·.data.toList)) [32]).length ≤ 140737488355328) :
    Calls Tryz.prog 44 #[v, .string ⟨#[32]⟩] w fun e w' => e = .returned (.string ⟨(Lib.join (l.map (·.data.toList)) [32]).toArray⟩) ∧ Below w.heap.size w w' := by
  rcases hown.2 with ⟨h1, h2⟩ | ⟨g, cap, cur, rfl, q2, q3, q4, q5, q6, q7⟩
  · exact absurd (List.eq_nil_of_length_eq_zero h2) h0
  · refine Any.strings_Join Tryz.laysJoin Tryz.extraJoin g 0 cap l ⟨#[32]⟩ w (fun j x hj => ?_) (Array.getElem?_eq_some_iff.1 q3).1 (by omega) q4 hlen
    have hlt := (List.getElem?_eq_some_iff.1 hj).1
    have hc : cur[j]? = some (.string x) := by
      have h3 : (l.map Value.string)[j]? = some (.string x) := by rw [List.getElem?_map, hj]; rfl
      rw [← q7, List.getElem?_take_of_lt (by omega)] at h3
      rw [← Array.getElem?_toList]; exact h3
    simp [World.cell?, q3, hc]

end Bt
end Go.Proofs.YtjfhnkhabipbdaaGreatDoor
namespace Go.Proofs.YtjfhnkhabipbdaaGreatDoor
open Go.RowKit
set_option linter.unusedVariables false
namespace Bt
open Vt (VT Rep BoxAt below_drew)
open Ev (take_drop tk cons_drop EBox six_cells six_row RowAt ix0 ix1 ix2 ix3 ix4 ix5)

set_option maxRecDepth 100000 in
set_option maxHeartbeats 1000000 in
theorem etext_walk (k id nn at' : Nat) (name text : ByteArray) (vk vn : Int) (vf : Nat) (vs : ByteArray) (A : Option Addr) (m c : Nat) (nm s0 s1 s2 s3 s4 s5 : ByteArray) (b0 b1 b2 b3 b4 b5 : Bool) (w : World)
    (hlen : (Lib.join ((nm :: selS [b0, b1, b2, b3, b4, b5] [s0, s1, s2, s3, s4, s5] 6).map (·.data.toList)) [32]).length ≤ 140737488355328)
    (hval : ∀ W, Below w.heap.size w W → Calls Tryz.prog 28 #[.agg #[.int .i64 (k : Nat), .int .u64 (id : Nat), .int .i64 (nn : Nat), .int .u64 (at' : Nat), .string name, .string text, .int .i64 vk, .int .i64 vn, .float .f64 vf, .string vs, .slice A m c]] W fun r w' => r = .returned (.bool true) ∧ Below W.heap.size W w')
    (hof : ∀ W, Calls Tryz.prog 39 #[.int .i64 (k : Nat)] W fun x w' => x = .returned (.tuple #[.agg #[.string nm, .bool b0, .bool b1, .bool b2, .bool b3, .bool b4, .bool b5], .bool true]) ∧ Below W.heap.size W w')
    (h0 : ∀ W, Below w.heap.size w W → Calls Tryz.prog 41 #[.int .u64 id, .int .i64 10] W fun e w' => e = .returned (.string s0) ∧ Below W.heap.size W w')
    (h1 : ∀ W, Below w.heap.size w W → Calls Tryz.prog 16 #[.int .i64 nn] W fun e w' => e = .returned (.string s1) ∧ Below W.heap.size W w')
    (h2 : ∀ W, Below w.heap.size w W → Calls Tryz.prog 41 #[.int .u64 at', .int .i64 10] W fun e w' => e = .returned (.string s2) ∧ Below W.heap.size W w')
    (h3 : ∀ W, Below w.heap.size w W → Calls Tryz.prog 42 #[.string name] W fun e w' => e = .returned (.string s3) ∧ Below W.heap.size W w')
    (h4 : ∀ W, Below w.heap.size w W → Calls Tryz.prog 42 #[.string text] W fun e w' => e = .returned (.string s4) ∧ Below W.heap.size W w')
    (h5 : ∀ W, Below w.heap.size w W → Calls Tryz.prog 43 #[.agg #[.int .i64 vk, .int .i64 vn, .float .f64 vf, .string vs, .slice A m c]] W fun e w' => e = .returned (.string s5) ∧ Below W.heap.size W w') :
    Calls Tryz.prog 29 #[.agg #[.int .i64 (k : Nat), .int .u64 (id : Nat), .int .i64 (nn : Nat), .int .u64 (at' : Nat), .string name, .string text, .int .i64 vk, .int .i64 vn, .float .f64 vf, .string vs, .slice A m c]] w fun e w' => e = .returned (.string ⟨(Lib.join ((nm :: selS [b0, b1, b2, b3, b4, b5] [s0, s1, s2, s3, s4, s5] 6).map (·.data.toList)) [32]).toArray⟩) ∧ Below w.heap.size w w' := by
  obtain ⟨res, hres⟩ : ∃ x : ByteArray, x = ⟨(Lib.join ((nm :: selS [b0, b1, b2, b3, b4, b5] [s0, s1, s2, s3, s4, s5] 6).map (·.data.toList)) [32]).toArray⟩ := ⟨_, rfl⟩
  rw [← hres]
  replace hres := Lib.hid hres
  replace hlen := Lib.hid hlen
  obtain ⟨W0, hW0⟩ : ∃ W0, W0 = w.alloc (.cells #[.int .i64 (k : Nat), .int .u64 (id : Nat), .int .i64 (nn : Nat), .int .u64 (at' : Nat), .string name, .string text, .int .i64 vk, .int .i64 vn, .float .f64 vf, .string vs, .slice A m c] 31) := ⟨_, rfl⟩
  have HB0 : Hid (Below w.heap.size w W0) := Lib.hid (by rw [hW0]; exact (Below.refl _ _).alloc (Nat.le_refl _) _)
  have hbx : EBox W0 w.heap.size #[.int .i64 (k : Nat), .int .u64 (id : Nat), .int .i64 (nn : Nat), .int .u64 (at' : Nat), .string name, .string text, .int .i64 vk, .int .i64 vn, .float .f64 vf, .string vs, .slice A m c] := by rw [hW0]; exact heap_alloc_new w _
  have hzz : w.heap.size < W0.heap.size := by rw [hW0]; simp
  have HX : Hid (∀ W, Below W0.heap.size W0 W → EBox W w.heap.size #[.int .i64 (k : Nat), .int .u64 (id : Nat), .int .i64 (nn : Nat), .int .u64 (at' : Nat), .string name, .string text, .int .i64 vk, .int .i64 vn, .float .f64 vf, .string vs, .slice A m c]) := Lib.hid fun W hW => hbx.later hW hzz
  have HVal := Lib.hid (hval W0 HB0.out)
  have HOf := Lib.hid hof
  have HUi0 : Hid (∀ W, Below W0.heap.size W0 W → _) := Lib.hid fun W hW => h0 W (HB0.out.trans (hW.mono HB0.out.size))
  have HUn0 : Hid (∀ W, Below W0.heap.size W0 W → _) := Lib.hid fun W hW => h1 W (HB0.out.trans (hW.mono HB0.out.size))
  have HUa0 : Hid (∀ W, Below W0.heap.size W0 W → _) := Lib.hid fun W hW => h2 W (HB0.out.trans (hW.mono HB0.out.size))
  have HTn0 : Hid (∀ W, Below W0.heap.size W0 W → _) := Lib.hid fun W hW => h3 W (HB0.out.trans (hW.mono HB0.out.size))
  have HTt0 : Hid (∀ W, Below W0.heap.size W0 W → _) := Lib.hid fun W hW => h4 W (HB0.out.trans (hW.mono HB0.out.size))
  have HVT : Hid (∀ W, Below W0.heap.size W0 W → _) := Lib.hid fun W hW => h5 W (HB0.out.trans (hW.mono HB0.out.size))
  obtain ⟨a0, a1, a2, a3, a4, a5, a6, a7, a8, a9, a10⟩ := EBox.cells hbx
  clear hbx hval hof h0 h1 h2 h3 h4 h5
  replace hW0 := Lib.hid hW0
  go_enter Tryz.func29, Tryz.ntmps29
  go_upto_region 1 with fail
  rw [← hW0.out]
  go_wp2_with fail
  refine HVal.out.mono ?_
  rintro e w1 ⟨rfl, hb1⟩
  have HB1 := Lib.hid hb1
  clear a0 a1 a2 a3 a4 a5 a6 a7 a8 a9 a10
  obtain ⟨a0, -⟩ := EBox.cells (HX.out w1 hb1)
  clear hb1 HVal
  go_wp2_with fail
  refine (HOf.out _).mono ?_
  rintro e w2 ⟨rfl, hb2⟩
  have HB2 : Hid (Below W0.heap.size W0 w2) := Lib.hid (HB1.out.trans (hb2.mono HB1.out.size))
  clear hb2 a0
  obtain ⟨wq, hwq⟩ : ∃ W3, W3 = w2.alloc (.cells #[.string nm, .bool b0, .bool b1, .bool b2, .bool b3, .bool b4, .bool b5] 62) := ⟨_, rfl⟩
  have HBQ : Hid (Below W0.heap.size W0 wq) := Lib.hid (by rw [hwq]; exact HB2.out.alloc HB2.out.size _)
  have HRQ : Hid (RowAt wq w2.heap.size #[.string nm, .bool b0, .bool b1, .bool b2, .bool b3, .bool b4, .bool b5]) := Lib.hid (by rw [hwq]; exact heap_alloc_new w2 _)
  have hzq : w2.heap.size < wq.heap.size := by rw [hwq]; simp
  have HTv : Hid (∀ W, Below wq.heap.size wq W → _) := Lib.hid fun W hW => HVT.out W (HBQ.out.trans (hW.mono HBQ.out.size))
  have HUi : Hid (∀ W, Below wq.heap.size wq W → _) := Lib.hid fun W hW => HUi0.out W (HBQ.out.trans (hW.mono HBQ.out.size))
  have HUn : Hid (∀ W, Below wq.heap.size wq W → _) := Lib.hid fun W hW => HUn0.out W (HBQ.out.trans (hW.mono HBQ.out.size))
  have HUa : Hid (∀ W, Below wq.heap.size wq W → _) := Lib.hid fun W hW => HUa0.out W (HBQ.out.trans (hW.mono HBQ.out.size))
  have HTn : Hid (∀ W, Below wq.heap.size wq W → _) := Lib.hid fun W hW => HTn0.out W (HBQ.out.trans (hW.mono HBQ.out.size))
  have HTt : Hid (∀ W, Below wq.heap.size wq W → _) := Lib.hid fun W hW => HTt0.out W (HBQ.out.trans (hW.mono HBQ.out.size))
  have HS : Hid (∀ W, Below wq.heap.size wq W → W.cell? ⟨w.heap.size, 1, none⟩ = some (.int .u64 (id : Nat)) ∧ W.cell? ⟨w.heap.size, 2, none⟩ = some (.int .i64 (nn : Nat)) ∧ W.cell? ⟨w.heap.size, 3, none⟩ = some (.int .u64 (at' : Nat)) ∧ W.cell? ⟨w.heap.size, 4, none⟩ = some (.string name) ∧ W.cell? ⟨w.heap.size, 5, none⟩ = some (.string text) ∧ W.cell? ⟨w.heap.size, 6, none⟩ = some (.int .i64 vk) ∧ W.cell? ⟨w.heap.size, 7, none⟩ = some (.int .i64 vn) ∧ W.cell? ⟨w.heap.size, 8, none⟩ = some (.float .f64 vf) ∧ W.cell? ⟨w.heap.size, 9, none⟩ = some (.string vs) ∧ W.cell? ⟨w.heap.size, 10, none⟩ = some (.slice A m c)) := Lib.hid fun W hW => by
    obtain ⟨-, c1, c2, c3, c4, c5, c6, c7, c8, c9, c10⟩ := EBox.cells (HX.out W (HBQ.out.trans (hW.mono HBQ.out.size)))
    exact ⟨c1, c2, c3, c4, c5, c6, c7, c8, c9, c10⟩
  replace hwq := Lib.hid hwq
  clear HVT HOf HUi0 HUn0 HUa0 HTn0 HTt0
  go_upto_region 4 with fail
  rw [← hwq.out]
  go_cut [5] from 18 to 36 (fun z wx => ∃ b, z = .pointer (some ⟨b, 0, none⟩) ∧ wx.heap[b]? = some (.cells #[.string s0, .string s1, .string s2, .string s3, .string s4, .string s5] 68 (0, 0)) ∧ Below wq.heap.size wq wx)
  case first =>
    have HB0 : Hid (Below wq.heap.size wq wq.drew) := Lib.hid (below_drew (Below.refl _ _))
    refine wp_region_noPanic ?_
    refine wp_region_held_drew (S := (fun w' : World => w'.cell? ⟨w.heap.size, 1, none⟩ = some (.int .u64 (id : Nat)) ∧ w'.cell? ⟨w.heap.size, 2, none⟩ = some (.int .i64 (nn : Nat)) ∧ w'.cell? ⟨w.heap.size, 3, none⟩ = some (.int .u64 (at' : Nat)) ∧ w'.cell? ⟨w.heap.size, 4, none⟩ = some (.string name) ∧ w'.cell? ⟨w.heap.size, 5, none⟩ = some (.string text) ∧ w'.cell? ⟨w.heap.size, 6, none⟩ = some (.int .i64 vk) ∧ w'.cell? ⟨w.heap.size, 7, none⟩ = some (.int .i64 vn) ∧ w'.cell? ⟨w.heap.size, 8, none⟩ = some (.float .f64 vf) ∧ w'.cell? ⟨w.heap.size, 9, none⟩ = some (.string vs) ∧ w'.cell? ⟨w.heap.size, 10, none⟩ = some (.slice A m c))) (by kernel_rfl) ?_ (fun hH0 => ?_)
    · exact HS.out _ HB0.out
    refine tk (i := 0) rfl ?_
    try simp only [Act.put, List.setIfInBounds_toArray, List.set_cons_zero, List.set_cons_succ]
    refine tk (i := 1) rfl ?_
    try simp only [Act.put, List.setIfInBounds_toArray, List.set_cons_zero, List.set_cons_succ]
    refine tk (i := 3) rfl ?_
    try simp only [Act.put, List.setIfInBounds_toArray, List.set_cons_zero, List.set_cons_succ]
    refine tk (i := 4) rfl ?_
    try simp only [Act.put, List.setIfInBounds_toArray, List.set_cons_zero, List.set_cons_succ]
    refine tk (i := 6) rfl ?_
    try simp only [Act.put, List.setIfInBounds_toArray, List.set_cons_zero, List.set_cons_succ]
    refine tk (i := 7) rfl ?_
    try simp only [Act.put, List.setIfInBounds_toArray, List.set_cons_zero, List.set_cons_succ]
    refine tk (i := 9) rfl ?_
    try simp only [Act.put, List.setIfInBounds_toArray, List.set_cons_zero, List.set_cons_succ]
    refine tk (i := 10) rfl ?_
    try simp only [Act.put, List.setIfInBounds_toArray, List.set_cons_zero, List.set_cons_succ]
    refine tk (i := 12) rfl ?_
    try simp only [Act.put, List.setIfInBounds_toArray, List.set_cons_zero, List.set_cons_succ]
    refine tk (i := 13) rfl ?_
    try simp only [Act.put, List.setIfInBounds_toArray, List.set_cons_zero, List.set_cons_succ]
    refine tk (i := 15) rfl ?_
    try simp only [Act.put, List.setIfInBounds_toArray, List.set_cons_zero, List.set_cons_succ]
    refine tk (i := 16) rfl ?_
    try simp only [Act.put, List.setIfInBounds_toArray, List.set_cons_zero, List.set_cons_succ]
    refine wpAnyH_ready (rs := [2, 19]) (by kernel_rfl) (by simp) ?_
    refine cons_drop rfl (fun K hK => ?_) (cons_drop rfl (fun K hK => ?_) AllReadyH.nil)
    · go_simp
      refine (HUi.out _ HB0.out).mono ?_
      rintro e u1 ⟨rfl, hb⟩
      have HB1 : Hid (Below wq.heap.size wq u1) := Lib.hid (HB0.out.trans (hb.mono HB0.out.size))
      clear hb
      go_wp2_with fail
      refine hK.out _ _ (HS.out _ HB1.out) (fun hH1 => ?_)
      clear hK K hH0
      try simp only [Act.put, List.setIfInBounds_toArray, List.set_cons_zero, List.set_cons_succ]
      refine wpAnyH_ready (rs := [5, 19]) (by kernel_rfl) (by simp) ?_
      refine cons_drop rfl (fun K hK => ?_) (cons_drop rfl (fun K hK => ?_) AllReadyH.nil)
      · go_simp
        refine (HUn.out _ HB1.out).mono ?_
        rintro e u2 ⟨rfl, hb⟩
        have HB2 : Hid (Below wq.heap.size wq u2) := Lib.hid (HB1.out.trans (hb.mono HB1.out.size))
        clear hb
        go_wp2_with fail
        refine hK.out _ _ (HS.out _ HB2.out) (fun hH2 => ?_)
        clear hK K hH1
        try simp only [Act.put, List.setIfInBounds_toArray, List.set_cons_zero, List.set_cons_succ]
        refine wpAnyH_ready (rs := [8, 19]) (by kernel_rfl) (by simp) ?_
        refine cons_drop rfl (fun K hK => ?_) (cons_drop rfl (fun K hK => ?_) AllReadyH.nil)
        · go_simp
          refine (HUa.out _ HB2.out).mono ?_
          rintro e u3 ⟨rfl, hb⟩
          have HB3 : Hid (Below wq.heap.size wq u3) := Lib.hid (HB2.out.trans (hb.mono HB2.out.size))
          clear hb
          go_wp2_with fail
          refine hK.out _ _ (HS.out _ HB3.out) (fun hH3 => ?_)
          clear hK K hH2
          try simp only [Act.put, List.setIfInBounds_toArray, List.set_cons_zero, List.set_cons_succ]
          refine wpAnyH_ready (rs := [11, 19]) (by kernel_rfl) (by simp) ?_
          refine cons_drop rfl (fun K hK => ?_) (cons_drop rfl (fun K hK => ?_) AllReadyH.nil)
          · go_simp
            refine (HTn.out _ HB3.out).mono ?_
            rintro e u4 ⟨rfl, hb⟩
            have HB4 : Hid (Below wq.heap.size wq u4) := Lib.hid (HB3.out.trans (hb.mono HB3.out.size))
            clear hb
            go_wp2_with fail
            refine hK.out _ _ (HS.out _ HB4.out) (fun hH4 => ?_)
            clear hK K hH3
            try simp only [Act.put, List.setIfInBounds_toArray, List.set_cons_zero, List.set_cons_succ]
            refine wpAnyH_ready (rs := [14, 19]) (by kernel_rfl) (by simp) ?_
            refine cons_drop rfl (fun K hK => ?_) (cons_drop rfl (fun K hK => ?_) AllReadyH.nil)
            · go_simp
              refine (HTt.out _ HB4.out).mono ?_
              rintro e u5 ⟨rfl, hb⟩
              have HB5 : Hid (Below wq.heap.size wq u5) := Lib.hid (HB4.out.trans (hb.mono HB4.out.size))
              clear hb
              go_wp2_with fail
              refine hK.out _ _ (HS.out _ HB5.out) (fun hH5 => ?_)
              clear hK K hH4
              try simp only [Act.put, List.setIfInBounds_toArray, List.set_cons_zero, List.set_cons_succ]
              refine wpAnyH_ready (rs := [17, 19]) (by kernel_rfl) (by simp) ?_
              refine cons_drop rfl (fun K hK => ?_) (cons_drop rfl (fun K hK => ?_) AllReadyH.nil)
              · go_simp
                refine (HTv.out _ HB5.out).mono ?_
                rintro e u6 ⟨rfl, hb⟩
                have HB6 : Hid (Below wq.heap.size wq u6) := Lib.hid (HB5.out.trans (hb.mono HB5.out.size))
                clear hb
                go_wp2_with fail
                refine hK.out _ _ (HS.out _ HB6.out) (fun hH6 => ?_)
                clear hK K hH5
                try simp only [Act.put, List.setIfInBounds_toArray, List.set_cons_zero, List.set_cons_succ]
                refine tk (i := 18) rfl ?_
                try simp only [Act.put, List.setIfInBounds_toArray, List.set_cons_zero, List.set_cons_succ]
                refine wpAnyH_ready (rs := [19]) (by kernel_rfl) (by simp) ?_
                refine cons_drop rfl (fun K hK => ?_) AllReadyH.nil
                go_simp
                refine hK.out _ _ (HS.out _ (HB6.out.alloc HB6.out.size _)) (fun hH => ?_)
                clear hK K hH6
                try simp only [Act.put, List.setIfInBounds_toArray, List.set_cons_zero, List.set_cons_succ]
                refine wpAnyH_ready (rs := [20]) (by kernel_rfl) (by simp) ?_
                refine cons_drop rfl (fun K hK => ?_) AllReadyH.nil
                go_simp
                refine hK.out _ _ (HS.out _ (HB6.out.alloc HB6.out.size _)) (fun hHH => ?_)
                clear hK K hH
                try simp only [Act.put, List.setIfInBounds_toArray, List.set_cons_zero, List.set_cons_succ]
                refine wpAnyH_done (by kernel_rfl) ?_ _
                refine NoPanic.normal ?_
                go_wp2_with fail
                go_meet
                case rel => exact ⟨_, rfl, heap_alloc_new u6 _, HB6.out.alloc HB6.out.size _⟩
              · go_simp
                obtain ⟨u7, hu7⟩ : ∃ u, u = u5.alloc (.cells #[.string ⟨#[]⟩, .string ⟨#[]⟩, .string ⟨#[]⟩, .string ⟨#[]⟩, .string ⟨#[]⟩, .string ⟨#[]⟩] 68) := ⟨_, rfl⟩
                rw [← hu7]
                have hbz : Below u5.heap.size u5 u7 := by rw [hu7]; exact (Below.refl _ _).alloc (Nat.le_refl _) _
                have HR7 : Hid (u7.heap[u5.heap.size]? = some (.cells #[.string ⟨#[]⟩, .string ⟨#[]⟩, .string ⟨#[]⟩, .string ⟨#[]⟩, .string ⟨#[]⟩, .string ⟨#[]⟩] 68 (0, 0))) := Lib.hid (by rw [hu7]; exact heap_alloc_new u5 _)
                have HB7 : Hid (Below wq.heap.size wq u7) := Lib.hid (HB5.out.trans (hbz.mono HB5.out.size))
                clear hbz
                replace hu7 := Lib.hid hu7
                obtain ⟨ga, hga⟩ : ∃ ga, ga = u5.heap.size := ⟨_, rfl⟩
                have hgl : wq.heap.size ≤ ga := by rw [hga]; exact HB5.out.size
                rw [← hga] at HR7 ⊢
                replace hga := Lib.hid hga
                refine hK.out _ _ (HS.out _ HB7.out) (fun hH7 => ?_)
                clear hK K hH5
                try simp only [Act.put, List.setIfInBounds_toArray, List.set_cons_zero, List.set_cons_succ]
                refine wpAnyH_ready (rs := [17]) (by kernel_rfl) (by simp) ?_
                refine cons_drop rfl (fun K hK => ?_) AllReadyH.nil
                go_simp
                refine (HTv.out _ HB7.out).mono ?_
                rintro e u8 ⟨rfl, hb⟩
                have HB8 : Hid (Below wq.heap.size wq u8) := Lib.hid (HB7.out.trans (hb.mono HB7.out.size))
                have HR8 := Lib.hid ((hb.block ga (Array.getElem?_eq_some_iff.1 HR7.out).1).trans HR7.out)
                clear hb
                go_wp2_with fail
                refine hK.out _ _ (HS.out _ HB8.out) (fun hH8 => ?_)
                clear hK K hH7
                try simp only [Act.put, List.setIfInBounds_toArray, List.set_cons_zero, List.set_cons_succ]
                refine tk (i := 18) rfl ?_
                try simp only [Act.put, List.setIfInBounds_toArray, List.set_cons_zero, List.set_cons_succ]
                refine wpAnyH_ready (rs := [20]) (by kernel_rfl) (by simp) ?_
                refine cons_drop rfl (fun K hK => ?_) AllReadyH.nil
                obtain ⟨y0, y1, y2, y3, y4, y5, z0, z1, z2, z3, z4, z5⟩ := six_cells HR8.out
                go_simp
                with_reducible refine hK.out _ _ (HS.out _ (six_ge HB8.out hgl _ _ _ _ _ _)) (fun hH => ?_)
                clear hK K hH8
                try simp only [Act.put, List.setIfInBounds_toArray, List.set_cons_zero, List.set_cons_succ]
                refine wpAnyH_done (by kernel_rfl) ?_ _
                refine NoPanic.normal ?_
                go_wp2_with fail
                go_meet
                case rel => exact ⟨_, rfl, six_row HR8.out _ _ _ _ _ _, six_ge HB8.out hgl _ _ _ _ _ _⟩
            · go_simp
              obtain ⟨u9, hu9⟩ : ∃ u, u = u4.alloc (.cells #[.string ⟨#[]⟩, .string ⟨#[]⟩, .string ⟨#[]⟩, .string ⟨#[]⟩, .string ⟨#[]⟩, .string ⟨#[]⟩] 68) := ⟨_, rfl⟩
              rw [← hu9]
              have hbz : Below u4.heap.size u4 u9 := by rw [hu9]; exact (Below.refl _ _).alloc (Nat.le_refl _) _
              have HR9 : Hid (u9.heap[u4.heap.size]? = some (.cells #[.string ⟨#[]⟩, .string ⟨#[]⟩, .string ⟨#[]⟩, .string ⟨#[]⟩, .string ⟨#[]⟩, .string ⟨#[]⟩] 68 (0, 0))) := Lib.hid (by rw [hu9]; exact heap_alloc_new u4 _)
              have HB9 : Hid (Below wq.heap.size wq u9) := Lib.hid (HB4.out.trans (hbz.mono HB4.out.size))
              clear hbz
              replace hu9 := Lib.hid hu9
              obtain ⟨ga, hga⟩ : ∃ ga, ga = u4.heap.size := ⟨_, rfl⟩
              have hgl : wq.heap.size ≤ ga := by rw [hga]; exact HB4.out.size
              rw [← hga] at HR9 ⊢
              replace hga := Lib.hid hga
              refine hK.out _ _ (HS.out _ HB9.out) (fun hH9 => ?_)
              clear hK K hH4
              try simp only [Act.put, List.setIfInBounds_toArray, List.set_cons_zero, List.set_cons_succ]
              refine wpAnyH_ready (rs := [14]) (by kernel_rfl) (by simp) ?_
              refine cons_drop rfl (fun K hK => ?_) AllReadyH.nil
              go_simp
              refine (HTt.out _ HB9.out).mono ?_
              rintro e u10 ⟨rfl, hb⟩
              have HB10 : Hid (Below wq.heap.size wq u10) := Lib.hid (HB9.out.trans (hb.mono HB9.out.size))
              have HR10 := Lib.hid ((hb.block ga (Array.getElem?_eq_some_iff.1 HR9.out).1).trans HR9.out)
              clear hb
              go_wp2_with fail
              refine hK.out _ _ (HS.out _ HB10.out) (fun hH10 => ?_)
              clear hK K hH9
              try simp only [Act.put, List.setIfInBounds_toArray, List.set_cons_zero, List.set_cons_succ]
              refine wpAnyH_ready (rs := [17]) (by kernel_rfl) (by simp) ?_
              refine cons_drop rfl (fun K hK => ?_) AllReadyH.nil
              go_simp
              refine (HTv.out _ HB10.out).mono ?_
              rintro e u11 ⟨rfl, hb⟩
              have HB11 : Hid (Below wq.heap.size wq u11) := Lib.hid (HB10.out.trans (hb.mono HB10.out.size))
              have HR11 := Lib.hid ((hb.block ga (Array.getElem?_eq_some_iff.1 HR10.out).1).trans HR10.out)
              clear hb
              go_wp2_with fail
              refine hK.out _ _ (HS.out _ HB11.out) (fun hH11 => ?_)
              clear hK K hH10
              try simp only [Act.put, List.setIfInBounds_toArray, List.set_cons_zero, List.set_cons_succ]
              refine tk (i := 18) rfl ?_
              try simp only [Act.put, List.setIfInBounds_toArray, List.set_cons_zero, List.set_cons_succ]
              refine wpAnyH_ready (rs := [20]) (by kernel_rfl) (by simp) ?_
              refine cons_drop rfl (fun K hK => ?_) AllReadyH.nil
              obtain ⟨y0, y1, y2, y3, y4, y5, z0, z1, z2, z3, z4, z5⟩ := six_cells HR11.out
              go_simp
              with_reducible refine hK.out _ _ (HS.out _ (six_ge HB11.out hgl _ _ _ _ _ _)) (fun hH => ?_)
              clear hK K hH11
              try simp only [Act.put, List.setIfInBounds_toArray, List.set_cons_zero, List.set_cons_succ]
              refine wpAnyH_done (by kernel_rfl) ?_ _
              refine NoPanic.normal ?_
              go_wp2_with fail
              go_meet
              case rel => exact ⟨_, rfl, six_row HR11.out _ _ _ _ _ _, six_ge HB11.out hgl _ _ _ _ _ _⟩
          · go_simp
            obtain ⟨u12, hu12⟩ : ∃ u, u = u3.alloc (.cells #[.string ⟨#[]⟩, .string ⟨#[]⟩, .string ⟨#[]⟩, .string ⟨#[]⟩, .string ⟨#[]⟩, .string ⟨#[]⟩] 68) := ⟨_, rfl⟩
            rw [← hu12]
            have hbz : Below u3.heap.size u3 u12 := by rw [hu12]; exact (Below.refl _ _).alloc (Nat.le_refl _) _
            have HR12 : Hid (u12.heap[u3.heap.size]? = some (.cells #[.string ⟨#[]⟩, .string ⟨#[]⟩, .string ⟨#[]⟩, .string ⟨#[]⟩, .string ⟨#[]⟩, .string ⟨#[]⟩] 68 (0, 0))) := Lib.hid (by rw [hu12]; exact heap_alloc_new u3 _)
            have HB12 : Hid (Below wq.heap.size wq u12) := Lib.hid (HB3.out.trans (hbz.mono HB3.out.size))
            clear hbz
            replace hu12 := Lib.hid hu12
            obtain ⟨ga, hga⟩ : ∃ ga, ga = u3.heap.size := ⟨_, rfl⟩
            have hgl : wq.heap.size ≤ ga := by rw [hga]; exact HB3.out.size
            rw [← hga] at HR12 ⊢
            replace hga := Lib.hid hga
            refine hK.out _ _ (HS.out _ HB12.out) (fun hH12 => ?_)
            clear hK K hH3
            try simp only [Act.put, List.setIfInBounds_toArray, List.set_cons_zero, List.set_cons_succ]
            refine wpAnyH_ready (rs := [11]) (by kernel_rfl) (by simp) ?_
            refine cons_drop rfl (fun K hK => ?_) AllReadyH.nil
            go_simp
            refine (HTn.out _ HB12.out).mono ?_
            rintro e u13 ⟨rfl, hb⟩
            have HB13 : Hid (Below wq.heap.size wq u13) := Lib.hid (HB12.out.trans (hb.mono HB12.out.size))
            have HR13 := Lib.hid ((hb.block ga (Array.getElem?_eq_some_iff.1 HR12.out).1).trans HR12.out)
            clear hb
            go_wp2_with fail
            refine hK.out _ _ (HS.out _ HB13.out) (fun hH13 => ?_)
            clear hK K hH12
            try simp only [Act.put, List.setIfInBounds_toArray, List.set_cons_zero, List.set_cons_succ]
            refine wpAnyH_ready (rs := [14]) (by kernel_rfl) (by simp) ?_
            refine cons_drop rfl (fun K hK => ?_) AllReadyH.nil
            go_simp
            refine (HTt.out _ HB13.out).mono ?_
            rintro e u14 ⟨rfl, hb⟩
            have HB14 : Hid (Below wq.heap.size wq u14) := Lib.hid (HB13.out.trans (hb.mono HB13.out.size))
            have HR14 := Lib.hid ((hb.block ga (Array.getElem?_eq_some_iff.1 HR13.out).1).trans HR13.out)
            clear hb
            go_wp2_with fail
            refine hK.out _ _ (HS.out _ HB14.out) (fun hH14 => ?_)
            clear hK K hH13
            try simp only [Act.put, List.setIfInBounds_toArray, List.set_cons_zero, List.set_cons_succ]
            refine wpAnyH_ready (rs := [17]) (by kernel_rfl) (by simp) ?_
            refine cons_drop rfl (fun K hK => ?_) AllReadyH.nil
            go_simp
            refine (HTv.out _ HB14.out).mono ?_
            rintro e u15 ⟨rfl, hb⟩
            have HB15 : Hid (Below wq.heap.size wq u15) := Lib.hid (HB14.out.trans (hb.mono HB14.out.size))
            have HR15 := Lib.hid ((hb.block ga (Array.getElem?_eq_some_iff.1 HR14.out).1).trans HR14.out)
            clear hb
            go_wp2_with fail
            refine hK.out _ _ (HS.out _ HB15.out) (fun hH15 => ?_)
            clear hK K hH14
            try simp only [Act.put, List.setIfInBounds_toArray, List.set_cons_zero, List.set_cons_succ]
            refine tk (i := 18) rfl ?_
            try simp only [Act.put, List.setIfInBounds_toArray, List.set_cons_zero, List.set_cons_succ]
            refine wpAnyH_ready (rs := [20]) (by kernel_rfl) (by simp) ?_
            refine cons_drop rfl (fun K hK => ?_) AllReadyH.nil
            obtain ⟨y0, y1, y2, y3, y4, y5, z0, z1, z2, z3, z4, z5⟩ := six_cells HR15.out
            go_simp
            with_reducible refine hK.out _ _ (HS.out _ (six_ge HB15.out hgl _ _ _ _ _ _)) (fun hH => ?_)
            clear hK K hH15
            try simp only [Act.put, List.setIfInBounds_toArray, List.set_cons_zero, List.set_cons_succ]
            refine wpAnyH_done (by kernel_rfl) ?_ _
            refine NoPanic.normal ?_
            go_wp2_with fail
            go_meet
            case rel => exact ⟨_, rfl, six_row HR15.out _ _ _ _ _ _, six_ge HB15.out hgl _ _ _ _ _ _⟩
        · go_simp
          obtain ⟨u16, hu16⟩ : ∃ u, u = u2.alloc (.cells #[.string ⟨#[]⟩, .string ⟨#[]⟩, .string ⟨#[]⟩, .string ⟨#[]⟩, .string ⟨#[]⟩, .string ⟨#[]⟩] 68) := ⟨_, rfl⟩
          rw [← hu16]
          have hbz : Below u2.heap.size u2 u16 := by rw [hu16]; exact (Below.refl _ _).alloc (Nat.le_refl _) _
          have HR16 : Hid (u16.heap[u2.heap.size]? = some (.cells #[.string ⟨#[]⟩, .string ⟨#[]⟩, .string ⟨#[]⟩, .string ⟨#[]⟩, .string ⟨#[]⟩, .string ⟨#[]⟩] 68 (0, 0))) := Lib.hid (by rw [hu16]; exact heap_alloc_new u2 _)
          have HB16 : Hid (Below wq.heap.size wq u16) := Lib.hid (HB2.out.trans (hbz.mono HB2.out.size))
          clear hbz
          replace hu16 := Lib.hid hu16
          obtain ⟨ga, hga⟩ : ∃ ga, ga = u2.heap.size := ⟨_, rfl⟩
          have hgl : wq.heap.size ≤ ga := by rw [hga]; exact HB2.out.size
          rw [← hga] at HR16 ⊢
          replace hga := Lib.hid hga
          refine hK.out _ _ (HS.out _ HB16.out) (fun hH16 => ?_)
          clear hK K hH2
          try simp only [Act.put, List.setIfInBounds_toArray, List.set_cons_zero, List.set_cons_succ]
          refine wpAnyH_ready (rs := [8]) (by kernel_rfl) (by simp) ?_
          refine cons_drop rfl (fun K hK => ?_) AllReadyH.nil
          go_simp
          refine (HUa.out _ HB16.out).mono ?_
          rintro e u17 ⟨rfl, hb⟩
          have HB17 : Hid (Below wq.heap.size wq u17) := Lib.hid (HB16.out.trans (hb.mono HB16.out.size))
          have HR17 := Lib.hid ((hb.block ga (Array.getElem?_eq_some_iff.1 HR16.out).1).trans HR16.out)
          clear hb
          go_wp2_with fail
          refine hK.out _ _ (HS.out _ HB17.out) (fun hH17 => ?_)
          clear hK K hH16
          try simp only [Act.put, List.setIfInBounds_toArray, List.set_cons_zero, List.set_cons_succ]
          refine wpAnyH_ready (rs := [11]) (by kernel_rfl) (by simp) ?_
          refine cons_drop rfl (fun K hK => ?_) AllReadyH.nil
          go_simp
          refine (HTn.out _ HB17.out).mono ?_
          rintro e u18 ⟨rfl, hb⟩
          have HB18 : Hid (Below wq.heap.size wq u18) := Lib.hid (HB17.out.trans (hb.mono HB17.out.size))
          have HR18 := Lib.hid ((hb.block ga (Array.getElem?_eq_some_iff.1 HR17.out).1).trans HR17.out)
          clear hb
          go_wp2_with fail
          refine hK.out _ _ (HS.out _ HB18.out) (fun hH18 => ?_)
          clear hK K hH17
          try simp only [Act.put, List.setIfInBounds_toArray, List.set_cons_zero, List.set_cons_succ]
          refine wpAnyH_ready (rs := [14]) (by kernel_rfl) (by simp) ?_
          refine cons_drop rfl (fun K hK => ?_) AllReadyH.nil
          go_simp
          refine (HTt.out _ HB18.out).mono ?_
          rintro e u19 ⟨rfl, hb⟩
          have HB19 : Hid (Below wq.heap.size wq u19) := Lib.hid (HB18.out.trans (hb.mono HB18.out.size))
          have HR19 := Lib.hid ((hb.block ga (Array.getElem?_eq_some_iff.1 HR18.out).1).trans HR18.out)
          clear hb
          go_wp2_with fail
          refine hK.out _ _ (HS.out _ HB19.out) (fun hH19 => ?_)
          clear hK K hH18
          try simp only [Act.put, List.setIfInBounds_toArray, List.set_cons_zero, List.set_cons_succ]
          refine wpAnyH_ready (rs := [17]) (by kernel_rfl) (by simp) ?_
          refine cons_drop rfl (fun K hK => ?_) AllReadyH.nil
          go_simp
          refine (HTv.out _ HB19.out).mono ?_
          rintro e u20 ⟨rfl, hb⟩
          have HB20 : Hid (Below wq.heap.size wq u20) := Lib.hid (HB19.out.trans (hb.mono HB19.out.size))
          have HR20 := Lib.hid ((hb.block ga (Array.getElem?_eq_some_iff.1 HR19.out).1).trans HR19.out)
          clear hb
          go_wp2_with fail
          refine hK.out _ _ (HS.out _ HB20.out) (fun hH20 => ?_)
          clear hK K hH19
          try simp only [Act.put, List.setIfInBounds_toArray, List.set_cons_zero, List.set_cons_succ]
          refine tk (i := 18) rfl ?_
          try simp only [Act.put, List.setIfInBounds_toArray, List.set_cons_zero, List.set_cons_succ]
          refine wpAnyH_ready (rs := [20]) (by kernel_rfl) (by simp) ?_
          refine cons_drop rfl (fun K hK => ?_) AllReadyH.nil
          obtain ⟨y0, y1, y2, y3, y4, y5, z0, z1, z2, z3, z4, z5⟩ := six_cells HR20.out
          go_simp
          with_reducible refine hK.out _ _ (HS.out _ (six_ge HB20.out hgl _ _ _ _ _ _)) (fun hH => ?_)
          clear hK K hH20
          try simp only [Act.put, List.setIfInBounds_toArray, List.set_cons_zero, List.set_cons_succ]
          refine wpAnyH_done (by kernel_rfl) ?_ _
          refine NoPanic.normal ?_
          go_wp2_with fail
          go_meet
          case rel => exact ⟨_, rfl, six_row HR20.out _ _ _ _ _ _, six_ge HB20.out hgl _ _ _ _ _ _⟩
      · go_simp
        obtain ⟨u21, hu21⟩ : ∃ u, u = u1.alloc (.cells #[.string ⟨#[]⟩, .string ⟨#[]⟩, .string ⟨#[]⟩, .string ⟨#[]⟩, .string ⟨#[]⟩, .string ⟨#[]⟩] 68) := ⟨_, rfl⟩
        rw [← hu21]
        have hbz : Below u1.heap.size u1 u21 := by rw [hu21]; exact (Below.refl _ _).alloc (Nat.le_refl _) _
        have HR21 : Hid (u21.heap[u1.heap.size]? = some (.cells #[.string ⟨#[]⟩, .string ⟨#[]⟩, .string ⟨#[]⟩, .string ⟨#[]⟩, .string ⟨#[]⟩, .string ⟨#[]⟩] 68 (0, 0))) := Lib.hid (by rw [hu21]; exact heap_alloc_new u1 _)
        have HB21 : Hid (Below wq.heap.size wq u21) := Lib.hid (HB1.out.trans (hbz.mono HB1.out.size))
        clear hbz
        replace hu21 := Lib.hid hu21
        obtain ⟨ga, hga⟩ : ∃ ga, ga = u1.heap.size := ⟨_, rfl⟩
        have hgl : wq.heap.size ≤ ga := by rw [hga]; exact HB1.out.size
        rw [← hga] at HR21 ⊢
        replace hga := Lib.hid hga
        refine hK.out _ _ (HS.out _ HB21.out) (fun hH21 => ?_)
        clear hK K hH1
        try simp only [Act.put, List.setIfInBounds_toArray, List.set_cons_zero, List.set_cons_succ]
        refine wpAnyH_ready (rs := [5]) (by kernel_rfl) (by simp) ?_
        refine cons_drop rfl (fun K hK => ?_) AllReadyH.nil
        go_simp
        refine (HUn.out _ HB21.out).mono ?_
        rintro e u22 ⟨rfl, hb⟩
        have HB22 : Hid (Below wq.heap.size wq u22) := Lib.hid (HB21.out.trans (hb.mono HB21.out.size))
        have HR22 := Lib.hid ((hb.block ga (Array.getElem?_eq_some_iff.1 HR21.out).1).trans HR21.out)
        clear hb
        go_wp2_with fail
        refine hK.out _ _ (HS.out _ HB22.out) (fun hH22 => ?_)
        clear hK K hH21
        try simp only [Act.put, List.setIfInBounds_toArray, List.set_cons_zero, List.set_cons_succ]
        refine wpAnyH_ready (rs := [8]) (by kernel_rfl) (by simp) ?_
        refine cons_drop rfl (fun K hK => ?_) AllReadyH.nil
        go_simp
        refine (HUa.out _ HB22.out).mono ?_
        rintro e u23 ⟨rfl, hb⟩
        have HB23 : Hid (Below wq.heap.size wq u23) := Lib.hid (HB22.out.trans (hb.mono HB22.out.size))
        have HR23 := Lib.hid ((hb.block ga (Array.getElem?_eq_some_iff.1 HR22.out).1).trans HR22.out)
        clear hb
        go_wp2_with fail
        refine hK.out _ _ (HS.out _ HB23.out) (fun hH23 => ?_)
        clear hK K hH22
        try simp only [Act.put, List.setIfInBounds_toArray, List.set_cons_zero, List.set_cons_succ]
        refine wpAnyH_ready (rs := [11]) (by kernel_rfl) (by simp) ?_
        refine cons_drop rfl (fun K hK => ?_) AllReadyH.nil
        go_simp
        refine (HTn.out _ HB23.out).mono ?_
        rintro e u24 ⟨rfl, hb⟩
        have HB24 : Hid (Below wq.heap.size wq u24) := Lib.hid (HB23.out.trans (hb.mono HB23.out.size))
        have HR24 := Lib.hid ((hb.block ga (Array.getElem?_eq_some_iff.1 HR23.out).1).trans HR23.out)
        clear hb
        go_wp2_with fail
        refine hK.out _ _ (HS.out _ HB24.out) (fun hH24 => ?_)
        clear hK K hH23
        try simp only [Act.put, List.setIfInBounds_toArray, List.set_cons_zero, List.set_cons_succ]
        refine wpAnyH_ready (rs := [14]) (by kernel_rfl) (by simp) ?_
        refine cons_drop rfl (fun K hK => ?_) AllReadyH.nil
        go_simp
        refine (HTt.out _ HB24.out).mono ?_
        rintro e u25 ⟨rfl, hb⟩
        have HB25 : Hid (Below wq.heap.size wq u25) := Lib.hid (HB24.out.trans (hb.mono HB24.out.size))
        have HR25 := Lib.hid ((hb.block ga (Array.getElem?_eq_some_iff.1 HR24.out).1).trans HR24.out)
        clear hb
        go_wp2_with fail
        refine hK.out _ _ (HS.out _ HB25.out) (fun hH25 => ?_)
        clear hK K hH24
        try simp only [Act.put, List.setIfInBounds_toArray, List.set_cons_zero, List.set_cons_succ]
        refine wpAnyH_ready (rs := [17]) (by kernel_rfl) (by simp) ?_
        refine cons_drop rfl (fun K hK => ?_) AllReadyH.nil
        go_simp
        refine (HTv.out _ HB25.out).mono ?_
        rintro e u26 ⟨rfl, hb⟩
        have HB26 : Hid (Below wq.heap.size wq u26) := Lib.hid (HB25.out.trans (hb.mono HB25.out.size))
        have HR26 := Lib.hid ((hb.block ga (Array.getElem?_eq_some_iff.1 HR25.out).1).trans HR25.out)
        clear hb
        go_wp2_with fail
        refine hK.out _ _ (HS.out _ HB26.out) (fun hH26 => ?_)
        clear hK K hH25
        try simp only [Act.put, List.setIfInBounds_toArray, List.set_cons_zero, List.set_cons_succ]
        refine tk (i := 18) rfl ?_
        try simp only [Act.put, List.setIfInBounds_toArray, List.set_cons_zero, List.set_cons_succ]
        refine wpAnyH_ready (rs := [20]) (by kernel_rfl) (by simp) ?_
        refine cons_drop rfl (fun K hK => ?_) AllReadyH.nil
        obtain ⟨y0, y1, y2, y3, y4, y5, z0, z1, z2, z3, z4, z5⟩ := six_cells HR26.out
        go_simp
        with_reducible refine hK.out _ _ (HS.out _ (six_ge HB26.out hgl _ _ _ _ _ _)) (fun hH => ?_)
        clear hK K hH26
        try simp only [Act.put, List.setIfInBounds_toArray, List.set_cons_zero, List.set_cons_succ]
        refine wpAnyH_done (by kernel_rfl) ?_ _
        refine NoPanic.normal ?_
        go_wp2_with fail
        go_meet
        case rel => exact ⟨_, rfl, six_row HR26.out _ _ _ _ _ _, six_ge HB26.out hgl _ _ _ _ _ _⟩
    · go_simp
      obtain ⟨u27, hu27⟩ : ∃ u, u = (wq.alloc (.cells #[.string ⟨#[]⟩, .string ⟨#[]⟩, .string ⟨#[]⟩, .string ⟨#[]⟩, .string ⟨#[]⟩, .string ⟨#[]⟩] 68)).drew := ⟨_, rfl⟩
      rw [← hu27]
      have hbz : Below wq.heap.size wq u27 := by rw [hu27]; exact below_drew ((Below.refl _ _).alloc (Nat.le_refl _) _)
      have HR27 : Hid (u27.heap[wq.heap.size]? = some (.cells #[.string ⟨#[]⟩, .string ⟨#[]⟩, .string ⟨#[]⟩, .string ⟨#[]⟩, .string ⟨#[]⟩, .string ⟨#[]⟩] 68 (0, 0))) := Lib.hid (by rw [hu27]; exact heap_alloc_new wq _)
      have HB27 : Hid (Below wq.heap.size wq u27) := Lib.hid hbz
      clear hbz
      replace hu27 := Lib.hid hu27
      obtain ⟨ga, hga⟩ : ∃ ga, ga = wq.heap.size := ⟨_, rfl⟩
      have hgl : wq.heap.size ≤ ga := by rw [hga]; exact Nat.le_refl _
      rw [← hga] at HR27 ⊢
      replace hga := Lib.hid hga
      refine hK.out _ _ (HS.out _ HB27.out) (fun hH27 => ?_)
      clear hK K hH0
      try simp only [Act.put, List.setIfInBounds_toArray, List.set_cons_zero, List.set_cons_succ]
      refine wpAnyH_ready (rs := [2]) (by kernel_rfl) (by simp) ?_
      refine cons_drop rfl (fun K hK => ?_) AllReadyH.nil
      go_simp
      refine (HUi.out _ HB27.out).mono ?_
      rintro e u28 ⟨rfl, hb⟩
      have HB28 : Hid (Below wq.heap.size wq u28) := Lib.hid (HB27.out.trans (hb.mono HB27.out.size))
      have HR28 := Lib.hid ((hb.block ga (Array.getElem?_eq_some_iff.1 HR27.out).1).trans HR27.out)
      clear hb
      go_wp2_with fail
      refine hK.out _ _ (HS.out _ HB28.out) (fun hH28 => ?_)
      clear hK K hH27
      try simp only [Act.put, List.setIfInBounds_toArray, List.set_cons_zero, List.set_cons_succ]
      refine wpAnyH_ready (rs := [5]) (by kernel_rfl) (by simp) ?_
      refine cons_drop rfl (fun K hK => ?_) AllReadyH.nil
      go_simp
      refine (HUn.out _ HB28.out).mono ?_
      rintro e u29 ⟨rfl, hb⟩
      have HB29 : Hid (Below wq.heap.size wq u29) := Lib.hid (HB28.out.trans (hb.mono HB28.out.size))
      have HR29 := Lib.hid ((hb.block ga (Array.getElem?_eq_some_iff.1 HR28.out).1).trans HR28.out)
      clear hb
      go_wp2_with fail
      refine hK.out _ _ (HS.out _ HB29.out) (fun hH29 => ?_)
      clear hK K hH28
      try simp only [Act.put, List.setIfInBounds_toArray, List.set_cons_zero, List.set_cons_succ]
      refine wpAnyH_ready (rs := [8]) (by kernel_rfl) (by simp) ?_
      refine cons_drop rfl (fun K hK => ?_) AllReadyH.nil
      go_simp
      refine (HUa.out _ HB29.out).mono ?_
      rintro e u30 ⟨rfl, hb⟩
      have HB30 : Hid (Below wq.heap.size wq u30) := Lib.hid (HB29.out.trans (hb.mono HB29.out.size))
      have HR30 := Lib.hid ((hb.block ga (Array.getElem?_eq_some_iff.1 HR29.out).1).trans HR29.out)
      clear hb
      go_wp2_with fail
      refine hK.out _ _ (HS.out _ HB30.out) (fun hH30 => ?_)
      clear hK K hH29
      try simp only [Act.put, List.setIfInBounds_toArray, List.set_cons_zero, List.set_cons_succ]
      refine wpAnyH_ready (rs := [11]) (by kernel_rfl) (by simp) ?_
      refine cons_drop rfl (fun K hK => ?_) AllReadyH.nil
      go_simp
      refine (HTn.out _ HB30.out).mono ?_
      rintro e u31 ⟨rfl, hb⟩
      have HB31 : Hid (Below wq.heap.size wq u31) := Lib.hid (HB30.out.trans (hb.mono HB30.out.size))
      have HR31 := Lib.hid ((hb.block ga (Array.getElem?_eq_some_iff.1 HR30.out).1).trans HR30.out)
      clear hb
      go_wp2_with fail
      refine hK.out _ _ (HS.out _ HB31.out) (fun hH31 => ?_)
      clear hK K hH30
      try simp only [Act.put, List.setIfInBounds_toArray, List.set_cons_zero, List.set_cons_succ]
      refine wpAnyH_ready (rs := [14]) (by kernel_rfl) (by simp) ?_
      refine cons_drop rfl (fun K hK => ?_) AllReadyH.nil
      go_simp
      refine (HTt.out _ HB31.out).mono ?_
      rintro e u32 ⟨rfl, hb⟩
      have HB32 : Hid (Below wq.heap.size wq u32) := Lib.hid (HB31.out.trans (hb.mono HB31.out.size))
      have HR32 := Lib.hid ((hb.block ga (Array.getElem?_eq_some_iff.1 HR31.out).1).trans HR31.out)
      clear hb
      go_wp2_with fail
      refine hK.out _ _ (HS.out _ HB32.out) (fun hH32 => ?_)
      clear hK K hH31
      try simp only [Act.put, List.setIfInBounds_toArray, List.set_cons_zero, List.set_cons_succ]
      refine wpAnyH_ready (rs := [17]) (by kernel_rfl) (by simp) ?_
      refine cons_drop rfl (fun K hK => ?_) AllReadyH.nil
      go_simp
      refine (HTv.out _ HB32.out).mono ?_
      rintro e u33 ⟨rfl, hb⟩
      have HB33 : Hid (Below wq.heap.size wq u33) := Lib.hid (HB32.out.trans (hb.mono HB32.out.size))
      have HR33 := Lib.hid ((hb.block ga (Array.getElem?_eq_some_iff.1 HR32.out).1).trans HR32.out)
      clear hb
      go_wp2_with fail
      refine hK.out _ _ (HS.out _ HB33.out) (fun hH33 => ?_)
      clear hK K hH32
      try simp only [Act.put, List.setIfInBounds_toArray, List.set_cons_zero, List.set_cons_succ]
      refine tk (i := 18) rfl ?_
      try simp only [Act.put, List.setIfInBounds_toArray, List.set_cons_zero, List.set_cons_succ]
      refine wpAnyH_ready (rs := [20]) (by kernel_rfl) (by simp) ?_
      refine cons_drop rfl (fun K hK => ?_) AllReadyH.nil
      obtain ⟨y0, y1, y2, y3, y4, y5, z0, z1, z2, z3, z4, z5⟩ := six_cells HR33.out
      go_simp
      with_reducible refine hK.out _ _ (HS.out _ (six_ge HB33.out hgl _ _ _ _ _ _)) (fun hH => ?_)
      clear hK K hH33
      try simp only [Act.put, List.setIfInBounds_toArray, List.set_cons_zero, List.set_cons_succ]
      refine wpAnyH_done (by kernel_rfl) ?_ _
      refine NoPanic.normal ?_
      go_wp2_with fail
      go_meet
      case rel => exact ⟨_, rfl, six_row HR33.out _ _ _ _ _ _, six_ge HB33.out hgl _ _ _ _ _ _⟩
  case rest =>
    obtain ⟨g, rfl, h6, hbx⟩ := hcut
    have H6 := Lib.hid h6
    have HBC : Hid (Below W0.heap.size W0 wc) := Lib.hid (HBQ.out.trans (hbx.mono HBQ.out.size))
    have hrc := (hbx.block _ hzq).trans HRQ.out
    have HRC : Hid (RowAt wc w2.heap.size #[.string nm, .bool b0, .bool b1, .bool b2, .bool b3, .bool b4, .bool b5]) := Lib.hid hrc
    have hzc : w2.heap.size < wc.heap.size := Nat.lt_of_lt_of_le hzq hbx.size
    have hgz : g < wc.heap.size := (Array.getElem?_eq_some_iff.1 h6).1
    clear h6 hbx HUi HUn HUa HTn HTt HTv HS
    obtain ⟨r0, -⟩ := RowAt.cells hrc
    clear hrc
    obtain ⟨W6, hW6⟩ : ∃ W, W = wc.alloc (.cells #[.string nm] 9) := ⟨_, rfl⟩
    have hb6 : Below wc.heap.size wc W6 := by rw [hW6]; exact (Below.refl _ _).alloc (Nat.le_refl _) _
    have HB6 : Hid (Below W0.heap.size W0 W6) := Lib.hid (HBC.out.trans (hb6.mono HBC.out.size))
    have HBc6 : Hid (Below wc.heap.size wc W6) := Lib.hid hb6
    have HO6 : Hid (SOwn W6 wc.heap.size (.slice (some ⟨wc.heap.size, 0, none⟩) 1 1) [nm]) := Lib.hid (by
      refine ⟨rfl, .inr ⟨wc.heap.size, 1, #[.string nm], rfl, Nat.le_refl _, ?_, by simp, by decide, rfl, rfl⟩⟩
      rw [hW6]; exact heap_alloc_new wc _)
    obtain ⟨-, r1, r2, r3, r4, r5, r6⟩ := RowAt.cells ((hb6.block _ hzc).trans HRC.out)
    replace hW6 := Lib.hid hW6
    clear hb6
    go_upto_region 6 with fail
    rw [← hW6.out]
    go_wp2_with fail
    clear r0 r1 r2 r3 r4 r5 r6
    have HLN := Lib.hid fun j => selS_len [b0, b1, b2, b3, b4, b5] [s0, s1, s2, s3, s4, s5] j
    generalize hps : [s0, s1, s2, s3, s4, s5] = ps at *
    generalize hbs : [b0, b1, b2, b3, b4, b5] = bs at *
    have hpl : ps.length = 6 := by rw [← hps]; rfl
    replace hps := Lib.hid hps
    replace hbs := Lib.hid hbs
    go_loopw [6, 42] (fun o i wr => ∃ (j : Nat), j ≤ 6 ∧ i = .int .i64 j ∧ SOwn wr wc.heap.size o (nm :: selS bs ps j) ∧ Below wc.heap.size W6 wr) (fun _ i _ => 6 - (intOf i).toNat)
    case atStart => exact ⟨0, by omega, rfl, by simpa [selS] using HO6.out, Below.refl _ _⟩
    case round =>
      obtain ⟨j, hj, rfl, hown, hb⟩ := hrel
      have HO := Lib.hid hown
      have HB := Lib.hid hb
      have h6 := ((HBc6.out.trans hb).block g hgz).trans H6.out
      have hbz : wc.heap.size ≤ wr.heap.size := (HBc6.out.trans hb).size
      obtain ⟨c0, c1, c2, c3, c4, c5, -⟩ := six_cells h6
      clear h6 hb
      have hln := HLN.out j
      rw [hpl] at hln
      rcases (by omega : j = 0 ∨ j = 1 ∨ j = 2 ∨ j = 3 ∨ j = 4 ∨ j = 5 ∨ j = 6) with rfl | rfl | rfl | rfl | rfl | rfl | rfl
      · have hix := ix0 (.bool b0) (.bool b1) (.bool b2) (.bool b3) (.bool b4) (.bool b5)
        have HSL : Hid (selS bs ps 1 = selS bs ps 0 ++ (if b0 then [s0] else [])) := Lib.hid (by rw [← hps.out, ← hbs.out]; simp [selS])
        cases b0
        · go_wp2_with fail
          exact ⟨⟨1, by omega, by go_num, by rw [HSL.out]; simpa using HO.out, HB.out⟩, by simp [intOf]⟩
        · obtain ⟨Wn, hWn⟩ : ∃ W, W = wr.alloc (.cells #[.string s0] 9) := ⟨_, rfl⟩
          have hbn : Below wr.heap.size wr Wn := by rw [hWn]; exact (Below.refl _ _).alloc (Nat.le_refl _) _
          have hxn : Wn.cell? ⟨wr.heap.size, 0, none⟩ = some (.string s0) := by unfold World.cell?; rw [hWn, heap_alloc_new]; rfl
          have hon := HO.out.later hbn
          have HBn := Lib.hid (HB.out.trans (hbn.mono hbz))
          have hbzn : wc.heap.size ≤ Wn.heap.size := Nat.le_trans hbz hbn.size
          replace hWn := Lib.hid hWn
          clear hbn
          go_wp2_with (at_builtin; rw [← hWn.out]; refine wpList_append_str _ rfl _ _ rfl wc.heap.size _ wr.heap.size 1 (nm :: selS bs ps 0) s0 rfl rfl hxn hon (by simp only [List.length_cons]; omega) hbzn ?_; intro v2 w2' hown2 hg2 hb2)
          have HO2 := Lib.hid hown2
          have HB2 := Lib.hid (HBn.out.trans hb2)
          clear hown2 hb2
          go_wp2_with fail
          exact ⟨⟨1, by omega, by go_num, by rw [HSL.out]; simpa using HO2.out, HB2.out⟩, by simp [intOf]⟩
      · have hix := ix1 (.bool b0) (.bool b1) (.bool b2) (.bool b3) (.bool b4) (.bool b5)
        have HSL : Hid (selS bs ps 2 = selS bs ps 1 ++ (if b1 then [s1] else [])) := Lib.hid (by rw [← hps.out, ← hbs.out]; simp [selS])
        cases b1
        · go_wp2_with fail
          exact ⟨⟨2, by omega, by go_num, by rw [HSL.out]; simpa using HO.out, HB.out⟩, by simp [intOf]⟩
        · obtain ⟨Wn, hWn⟩ : ∃ W, W = wr.alloc (.cells #[.string s1] 9) := ⟨_, rfl⟩
          have hbn : Below wr.heap.size wr Wn := by rw [hWn]; exact (Below.refl _ _).alloc (Nat.le_refl _) _
          have hxn : Wn.cell? ⟨wr.heap.size, 0, none⟩ = some (.string s1) := by unfold World.cell?; rw [hWn, heap_alloc_new]; rfl
          have hon := HO.out.later hbn
          have HBn := Lib.hid (HB.out.trans (hbn.mono hbz))
          have hbzn : wc.heap.size ≤ Wn.heap.size := Nat.le_trans hbz hbn.size
          replace hWn := Lib.hid hWn
          clear hbn
          go_wp2_with (at_builtin; rw [← hWn.out]; refine wpList_append_str _ rfl _ _ rfl wc.heap.size _ wr.heap.size 1 (nm :: selS bs ps 1) s1 rfl rfl hxn hon (by simp only [List.length_cons]; omega) hbzn ?_; intro v2 w2' hown2 hg2 hb2)
          have HO2 := Lib.hid hown2
          have HB2 := Lib.hid (HBn.out.trans hb2)
          clear hown2 hb2
          go_wp2_with fail
          exact ⟨⟨2, by omega, by go_num, by rw [HSL.out]; simpa using HO2.out, HB2.out⟩, by simp [intOf]⟩
      · have hix := ix2 (.bool b0) (.bool b1) (.bool b2) (.bool b3) (.bool b4) (.bool b5)
        have HSL : Hid (selS bs ps 3 = selS bs ps 2 ++ (if b2 then [s2] else [])) := Lib.hid (by rw [← hps.out, ← hbs.out]; simp [selS])
        cases b2
        · go_wp2_with fail
          exact ⟨⟨3, by omega, by go_num, by rw [HSL.out]; simpa using HO.out, HB.out⟩, by simp [intOf]⟩
        · obtain ⟨Wn, hWn⟩ : ∃ W, W = wr.alloc (.cells #[.string s2] 9) := ⟨_, rfl⟩
          have hbn : Below wr.heap.size wr Wn := by rw [hWn]; exact (Below.refl _ _).alloc (Nat.le_refl _) _
          have hxn : Wn.cell? ⟨wr.heap.size, 0, none⟩ = some (.string s2) := by unfold World.cell?; rw [hWn, heap_alloc_new]; rfl
          have hon := HO.out.later hbn
          have HBn := Lib.hid (HB.out.trans (hbn.mono hbz))
          have hbzn : wc.heap.size ≤ Wn.heap.size := Nat.le_trans hbz hbn.size
          replace hWn := Lib.hid hWn
          clear hbn
          go_wp2_with (at_builtin; rw [← hWn.out]; refine wpList_append_str _ rfl _ _ rfl wc.heap.size _ wr.heap.size 1 (nm :: selS bs ps 2) s2 rfl rfl hxn hon (by simp only [List.length_cons]; omega) hbzn ?_; intro v2 w2' hown2 hg2 hb2)
          have HO2 := Lib.hid hown2
          have HB2 := Lib.hid (HBn.out.trans hb2)
          clear hown2 hb2
          go_wp2_with fail
          exact ⟨⟨3, by omega, by go_num, by rw [HSL.out]; simpa using HO2.out, HB2.out⟩, by simp [intOf]⟩
      · have hix := ix3 (.bool b0) (.bool b1) (.bool b2) (.bool b3) (.bool b4) (.bool b5)
        have HSL : Hid (selS bs ps 4 = selS bs ps 3 ++ (if b3 then [s3] else [])) := Lib.hid (by rw [← hps.out, ← hbs.out]; simp [selS])
        cases b3
        · go_wp2_with fail
          exact ⟨⟨4, by omega, by go_num, by rw [HSL.out]; simpa using HO.out, HB.out⟩, by simp [intOf]⟩
        · obtain ⟨Wn, hWn⟩ : ∃ W, W = wr.alloc (.cells #[.string s3] 9) := ⟨_, rfl⟩
          have hbn : Below wr.heap.size wr Wn := by rw [hWn]; exact (Below.refl _ _).alloc (Nat.le_refl _) _
          have hxn : Wn.cell? ⟨wr.heap.size, 0, none⟩ = some (.string s3) := by unfold World.cell?; rw [hWn, heap_alloc_new]; rfl
          have hon := HO.out.later hbn
          have HBn := Lib.hid (HB.out.trans (hbn.mono hbz))
          have hbzn : wc.heap.size ≤ Wn.heap.size := Nat.le_trans hbz hbn.size
          replace hWn := Lib.hid hWn
          clear hbn
          go_wp2_with (at_builtin; rw [← hWn.out]; refine wpList_append_str _ rfl _ _ rfl wc.heap.size _ wr.heap.size 1 (nm :: selS bs ps 3) s3 rfl rfl hxn hon (by simp only [List.length_cons]; omega) hbzn ?_; intro v2 w2' hown2 hg2 hb2)
          have HO2 := Lib.hid hown2
          have HB2 := Lib.hid (HBn.out.trans hb2)
          clear hown2 hb2
          go_wp2_with fail
          exact ⟨⟨4, by omega, by go_num, by rw [HSL.out]; simpa using HO2.out, HB2.out⟩, by simp [intOf]⟩
      · have hix := ix4 (.bool b0) (.bool b1) (.bool b2) (.bool b3) (.bool b4) (.bool b5)
        have HSL : Hid (selS bs ps 5 = selS bs ps 4 ++ (if b4 then [s4] else [])) := Lib.hid (by rw [← hps.out, ← hbs.out]; simp [selS])
        cases b4
        · go_wp2_with fail
          exact ⟨⟨5, by omega, by go_num, by rw [HSL.out]; simpa using HO.out, HB.out⟩, by simp [intOf]⟩
        · obtain ⟨Wn, hWn⟩ : ∃ W, W = wr.alloc (.cells #[.string s4] 9) := ⟨_, rfl⟩
          have hbn : Below wr.heap.size wr Wn := by rw [hWn]; exact (Below.refl _ _).alloc (Nat.le_refl _) _
          have hxn : Wn.cell? ⟨wr.heap.size, 0, none⟩ = some (.string s4) := by unfold World.cell?; rw [hWn, heap_alloc_new]; rfl
          have hon := HO.out.later hbn
          have HBn := Lib.hid (HB.out.trans (hbn.mono hbz))
          have hbzn : wc.heap.size ≤ Wn.heap.size := Nat.le_trans hbz hbn.size
          replace hWn := Lib.hid hWn
          clear hbn
          go_wp2_with (at_builtin; rw [← hWn.out]; refine wpList_append_str _ rfl _ _ rfl wc.heap.size _ wr.heap.size 1 (nm :: selS bs ps 4) s4 rfl rfl hxn hon (by simp only [List.length_cons]; omega) hbzn ?_; intro v2 w2' hown2 hg2 hb2)
          have HO2 := Lib.hid hown2
          have HB2 := Lib.hid (HBn.out.trans hb2)
          clear hown2 hb2
          go_wp2_with fail
          exact ⟨⟨5, by omega, by go_num, by rw [HSL.out]; simpa using HO2.out, HB2.out⟩, by simp [intOf]⟩
      · have hix := ix5 (.bool b0) (.bool b1) (.bool b2) (.bool b3) (.bool b4) (.bool b5)
        have HSL : Hid (selS bs ps 6 = selS bs ps 5 ++ (if b5 then [s5] else [])) := Lib.hid (by rw [← hps.out, ← hbs.out]; simp [selS])
        cases b5
        · go_wp2_with fail
          exact ⟨⟨6, by omega, by go_num, by rw [HSL.out]; simpa using HO.out, HB.out⟩, by simp [intOf]⟩
        · obtain ⟨Wn, hWn⟩ : ∃ W, W = wr.alloc (.cells #[.string s5] 9) := ⟨_, rfl⟩
          have hbn : Below wr.heap.size wr Wn := by rw [hWn]; exact (Below.refl _ _).alloc (Nat.le_refl _) _
          have hxn : Wn.cell? ⟨wr.heap.size, 0, none⟩ = some (.string s5) := by unfold World.cell?; rw [hWn, heap_alloc_new]; rfl
          have hon := HO.out.later hbn
          have HBn := Lib.hid (HB.out.trans (hbn.mono hbz))
          have hbzn : wc.heap.size ≤ Wn.heap.size := Nat.le_trans hbz hbn.size
          replace hWn := Lib.hid hWn
          clear hbn
          go_wp2_with (at_builtin; rw [← hWn.out]; refine wpList_append_str _ rfl _ _ rfl wc.heap.size _ wr.heap.size 1 (nm :: selS bs ps 5) s5 rfl rfl hxn hon (by simp only [List.length_cons]; omega) hbzn ?_; intro v2 w2' hown2 hg2 hb2)
          have HO2 := Lib.hid hown2
          have HB2 := Lib.hid (HBn.out.trans hb2)
          clear hown2 hb2
          go_wp2_with fail
          exact ⟨⟨6, by omega, by go_num, by rw [HSL.out]; simpa using HO2.out, HB2.out⟩, by simp [intOf]⟩
      · have HJ := Lib.hid (join_any (nm :: selS bs ps 6) _ _ wr hown (by simp) (by simp only [List.length_cons]; omega) hlen.out)
        go_wp2_with fail
        refine HJ.out.mono ?_
        rintro e w9 ⟨rfl, hb9⟩
        go_wp2_with fail
        go_ret
        exact ⟨by rw [hres.out]; rfl, HB0.out.trans ((HB6.out.trans ((HB.out.mono HBC.out.size).trans (hb9.mono (Nat.le_trans HBC.out.size hbz)))).mono HB0.out.size)⟩
end Bt
end Go.Proofs.YtjfhnkhabipbdaaGreatDoor
namespace Go.Proofs.YtjfhnkhabipbdaaGreatDoor
open Go.RowKit
set_option linter.unusedVariables false
namespace Bt
open Vt (VT Rep BoxAt below_drew)
open Ev (EV FieldsOk ERep evCells vCells zeroT EBox nameOf fieldsOf rowCellsOf of_in evalid_any)

def e5 : EV := ⟨5, 5, 0, 0, ⟨#[]⟩, ⟨#[]⟩, zeroT⟩
end Bt
end Go.Proofs.YtjfhnkhabipbdaaGreatDoor
