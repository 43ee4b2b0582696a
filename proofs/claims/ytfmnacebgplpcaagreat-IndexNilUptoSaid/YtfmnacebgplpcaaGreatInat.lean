/- value.form and value.Bytes of a value of kind 0. -/
import Derived.Test.YtfmnacebgplpcaaGreatInas
import Derived.Test.YtfmnacebgplpcaaGreatInac
import Derived.Test.YtfmnacebgplpcaaGreatInad
import Derived.Deep.RegionWith
import Derived.Deep.CutRange
import Derived.Laws.EntriesVeiled
import Derived.StillTailTactics
import Derived.Test.YtfmnacebgplpcaaGreatInai
import Derived.BigQuiet
import Derived.Laws.BitsAllLaws
import Derived.Lib.BufferRead
import Derived.Lib.AtoiErrMem
set_option maxRecDepth 100000
set_option maxHeartbeats 4000000
variable {p : Prop}
set_option linter.unusedVariables false
set_option linter.unusedSimpArgs false
open Go.RowKit
namespace Go.Proofs.YtfmnacebgplpcaaGreat
namespace Bt
open _root_.Go.Proofs.YtfmnacebgplpcaaGreat.Nm (Ds Df)
open Vt (VT Rep BoxAt Da)
open Ev (Dy tk ap rd1 rd2 Dj)
theorem SR (x v : Value) (vn : Int) (vf : Nat) (vs : ByteArray) (A : Option Addr) (m c : Nat) (vk : Int) (w : World) :
  Calls Tryz.prog 240 #[.agg #[], .agg #[.int .i64 vk, .int .i64 vn, .float .f64 vf, .string vs, .slice A m c]] w fun e w' => e = .returned (.slice none 0 0) ∧ Below w.heap.size w w' := by
 go_enter Tryz.func240, Tryz.ntmps240
 go_wp2_with fail
 go_ret
 exact ⟨rfl, ((Below.refl _ _).alloc (Nat.le_refl _) _).alloc (by simp) _⟩
theorem Gv {ops : Array Oper} {o : Oper} {a : Act} {K : Act → World → Prop} {Q : Exit → Act → World → Prop} {E : Prop} (W : World) (hgd : o.guard = none) (s x : Operand)
  (ho : o.op = .call { callee := .builtin .append, args := #[s, x], argTypes := #[40, 40] }) (base : Nat) (v src : Value) (l m : List Nat) (hv : a.eval s = v) (hx : a.eval x = src) (hown : BOwn W base v l) (hs : BIn W src m) (hlen : l.length + m.length ≤ 35184372088832) (hbase : base ≤ W.heap.size)
  (h : ∀ v' W', BOwn W' base v' (l ++ m) → W.grownBy W' v.ownBlock → Below base W W' → K (a.put o.dst v') W') : if Region.wanted o (yielded ops a.tmps) = true then Oper.wp Tryz.prog o a W K Q else E := by
 have hw : Region.wanted o (yielded ops a.tmps) = true := by simp [Region.wanted, hgd]
 rw [if_pos hw]
 obtain ⟨v', W', hr, h1, h2⟩ := FX o.type hown hs hlen hbase
 exact Lib.wp_append_run W s x _ _ ho v src hv hx v' W' hr (h v' W' h1 h2 ((Below.refl base W).grown h2 hbase hown.row_ge))
open Ev (EBox Fh Gw RowAt ix0 ix1 ix2 ix3 ix4 ix5)
def sel (bs : List Bool) (ps : List (List Nat)) (j : Nat) : List Nat := (((bs.zip ps).take j).map (fun p => if p.1 then p.2 else [])).flatten
def Six (w : World) (b : Nat) (ps : List (List Nat)) : Prop := ∃ v0 v1 v2 v3 v4 v5, w.heap[b]? = some (.cells #[v0, v1, v2, v3, v4, v5] 165 (0, 0)) ∧ BIn w v0 (ps[0]?.getD []) ∧ BIn w v1 (ps[1]?.getD []) ∧ BIn w v2 (ps[2]?.getD []) ∧ BIn w v3 (ps[3]?.getD []) ∧ BIn w v4 (ps[4]?.getD []) ∧ BIn w v5 (ps[5]?.getD [])
theorem Six.later {w w' : World} {b : Nat} {ps : List (List Nat)} (h : Six w b ps) (hb : Below w.heap.size w w') : Six w' b ps := by
 obtain ⟨v0, v1, v2, v3, v4, v5, h1, h2, h3, h4, h5, h6, h7⟩ := h
 exact ⟨v0, v1, v2, v3, v4, v5, (hb.block b (Array.getElem?_eq_some_iff.1 h1).1).trans h1, h2.later hb, h3.later hb, h4.later hb, h5.later hb, h6.later hb, h7.later hb⟩
theorem Sg : ∀ (bs : List Bool) (ps : List (List Nat)) (j : Nat), (sel bs ps j).length ≤ ps.flatten.length
 | [], _, _ => by simp [sel]
 | _ :: _, [], _ => by simp [sel]
 | _ :: _, _ :: _, 0 => by simp [sel]
 | b :: bs, p :: ps, j + 1 => by have := Sg bs ps j; simp only [sel] at this ⊢; simp only [List.zip_cons_cons, List.take_succ_cons, List.map_cons, List.flatten_cons, List.length_append]; cases b <;> simp only [Bool.false_eq_true, if_true, if_false, List.length_nil] <;> omega
theorem BIn.far {w : World} {v : Value} {l : List Nat} (h : BIn w v l) {p : Addr} (hp : w.heap.size ≤ p.block) (u : Value) : BIn (w.setCell p u) v l :=
 h.later ((Below.refl _ _).setCell hp u)
theorem FD (ad : Addr) (n c : Nat) : (Value.slice (some ad) n c).ownBlock = some ad.block := by cases ad; rfl
def Fe (v : Value) (g : Nat) : Prop := ∀ k, v.ownBlock = some k → k ≠ g
theorem BIn.apart {w : World} {v : Value} {l : List Nat} (h : BIn w v l) : Fe v w.heap.size := by
 intro k hk
 rcases h with ⟨rfl, -⟩ | ⟨ad, cap, rfl, h2, h3, h4, h5⟩
 ·cases hk
 ·rw [FD] at hk; cases hk; omega
theorem BIn.six {w : World} {v : Value} {l : List Nat} {g : Nat} (h : BIn w v l) (hd : Fe v g) (a0 a1 a2 a3 a4 a5 : Value) :
  BIn ((((((w.setCell ⟨g, 0, none⟩ a0).setCell ⟨g, 1, none⟩ a1).setCell ⟨g, 2, none⟩ a2).setCell ⟨g, 3, none⟩ a3).setCell ⟨g, 4, none⟩ a4).setCell ⟨g, 5, none⟩ a5) v l := by
 rcases h with h | ⟨ad, cap, rfl, h2, h3, h4, h5⟩
 ·exact .inl h
 ·have hne : ad.block ≠ g := hd _ (FD ad _ _)
  refine .inr ⟨ad, cap, rfl, h2, h3, by simpa [World.setCell] using h4, fun j u hu => ?_⟩
  have := h5 j u hu
  have hb : (ad.add j).block ≠ g := by rw [OY]; exact hne
  rw [← this]
  apply World.cell?_of_block
  rw [Below.heap_setCell _ _ _ _ (by simpa using hb), Below.heap_setCell _ _ _ _ (by simpa using hb), Below.heap_setCell _ _ _ _ (by simpa using hb), Below.heap_setCell _ _ _ _ (by simpa using hb), Below.heap_setCell _ _ _ _ (by simpa using hb), Below.heap_setCell _ _ _ _ (by simpa using hb)]
theorem Gz {B g : Nat} {w w' : World} (h : Below B w w') (hg : B ≤ g) (a b c d e f : Value) :
  Below B w ((((((w'.setCell ⟨g, 0, none⟩ a).setCell ⟨g, 1, none⟩ b).setCell ⟨g, 2, none⟩ c).setCell ⟨g, 3, none⟩ d).setCell ⟨g, 4, none⟩ e).setCell ⟨g, 5, none⟩ f) :=
 (((((h.setCell (p := ⟨g, 0, none⟩) hg _).setCell (p := ⟨g, 1, none⟩) hg _).setCell (p := ⟨g, 2, none⟩) hg _).setCell (p := ⟨g, 3, none⟩) hg _).setCell (p := ⟨g, 4, none⟩) hg _).setCell (p := ⟨g, 5, none⟩) hg _
theorem OK (k id nn at' : Nat) (name text : ByteArray) (hk : k < 1000) (hid : id < 18446744073709551616) (hnn : nn ≤ 2147483647) (hat : at' < 18446744073709551616) (hname : name.size ≤ 1000) (htext : text.size ≤ 1000) (vk vn : Int) (vf : Nat) (vs : ByteArray) (A : Option Addr) (m c : Nat) (nm : ByteArray) (b0 b1 b2 b3 b4 b5 : Bool) (lv : List Nat) (hlv : lv.length ≤ 100000) (w : World)
  (hval : ∀ W, Below w.heap.size w W → Calls Tryz.prog 73 #[.agg #[.int .i64 (k : Nat), .int .u64 (id : Nat), .int .i64 (nn : Nat), .int .u64 (at' : Nat), .string name, .string text, .int .i64 vk, .int .i64 vn, .float .f64 vf, .string vs, .slice A m c]] W fun r w' => r = .returned (.bool true) ∧ Below W.heap.size W w')
  (hof : ∀ W, Calls Tryz.prog 100 #[.int .i64 (k : Nat)] W fun x w' => x = .returned (.tuple #[.agg #[.string nm, .bool b0, .bool b1, .bool b2, .bool b3, .bool b4, .bool b5], .bool true]) ∧ Below W.heap.size W w')
  (hvb : ∀ W, Below w.heap.size w W → Calls Tryz.prog 101 #[.agg #[.int .i64 vk, .int .i64 vn, .float .f64 vf, .string vs, .slice A m c]] W fun e w' => ∃ v, e = .returned (.tuple #[v, .bool true]) ∧ BOwn w' W.heap.size v lv ∧ Below W.heap.size W w') :
  Calls Tryz.prog 61 #[.agg #[.int .i64 (k : Nat), .int .u64 (id : Nat), .int .i64 (nn : Nat), .int .u64 (at' : Nat), .string name, .string text, .int .i64 vk, .int .i64 vn, .float .f64 vf, .string vs, .slice A m c]] w fun e w' => ∃ v, e = .returned (.tuple #[v, .bool true]) ∧ BOwn w' w.heap.size v ([1] ++ Db 10 k ++ sel [b0, b1, b2, b3, b4, b5] [Db 10 id, Db 10 nn, Db 10 at', Db 10 name.size ++ sb name, Db 10 text.size ++ sb text, lv] 6) ∧ Below w.heap.size w w' := by
 obtain ⟨l0, hl0⟩ : ∃ l, l = Db 10 id := ⟨_, rfl⟩
 obtain ⟨l1, hl1⟩ : ∃ l, l = Db 10 nn := ⟨_, rfl⟩
 obtain ⟨l2, hl2⟩ : ∃ l, l = Db 10 at' := ⟨_, rfl⟩
 obtain ⟨l3, hl3⟩ : ∃ l, l = Db 10 name.size ++ sb name := ⟨_, rfl⟩
 obtain ⟨l4, hl4⟩ : ∃ l, l = Db 10 text.size ++ sb text := ⟨_, rfl⟩
 have ll0 : l0.length ≤ 11 := by rw [hl0]; exact Dh 10 _
 have ll1 : l1.length ≤ 11 := by rw [hl1]; exact Dh 10 _
 have ll2 : l2.length ≤ 11 := by rw [hl2]; exact Dh 10 _
 have ll3 : l3.length ≤ 1011 := by rw [hl3, List.length_append, Fi]; have := Dh 10 name.size; omega
 have ll4 : l4.length ≤ 1011 := by rw [hl4, List.length_append, Fi]; have := Dh 10 text.size; omega
 have HUi := Lib.hid fun W => Fdz id hid W
 have HUn := Lib.hid fun W => Fdz nn (by omega) W
 have HUa := Lib.hid fun W => Fdz at' hat W
 have HTn := Lib.hid fun W => Gl name (by omega) W
 have HTt := Lib.hid fun W => Gl text (by omega) W
 have HUk := Lib.hid fun W => Fdz k (by omega) W
 obtain ⟨lk, hlk⟩ : ∃ l, l = Db 10 k := ⟨_, rfl⟩
 have llk : lk.length ≤ 11 := by rw [hlk]; exact Dh 10 _
 rw [← hlk] at HUk ⊢
 rw [← hl0] at HUi ⊢
 rw [← hl1] at HUn ⊢
 rw [← hl2] at HUa ⊢
 rw [← hl3] at HTn ⊢
 rw [← hl4] at HTt ⊢
 clear hlk hl0 hl1 hl2 hl3 hl4
 obtain ⟨W0, hW0⟩ : ∃ W0, W0 = w.alloc (.cells #[.int .i64 (k : Nat), .int .u64 (id : Nat), .int .i64 (nn : Nat), .int .u64 (at' : Nat), .string name, .string text, .int .i64 vk, .int .i64 vn, .float .f64 vf, .string vs, .slice A m c] 71) := ⟨_, rfl⟩
 have HB0 : Hid (Below w.heap.size w W0) := Lib.hid (by rw [hW0]; exact (Below.refl _ _).alloc (Nat.le_refl _) _)
 have hbx : EBox W0 w.heap.size #[.int .i64 (k : Nat), .int .u64 (id : Nat), .int .i64 (nn : Nat), .int .u64 (at' : Nat), .string name, .string text, .int .i64 vk, .int .i64 vn, .float .f64 vf, .string vs, .slice A m c] := by rw [hW0]; exact heap_alloc_new w _
 have hzz : w.heap.size < W0.heap.size := by rw [hW0]; simp
 have HX : Hid (∀ W, Below W0.heap.size W0 W → EBox W w.heap.size #[.int .i64 (k : Nat), .int .u64 (id : Nat), .int .i64 (nn : Nat), .int .u64 (at' : Nat), .string name, .string text, .int .i64 vk, .int .i64 vn, .float .f64 vf, .string vs, .slice A m c]) := Lib.hid fun W hW => hbx.later hW hzz
 have HVal := Lib.hid (hval W0 HB0.out)
 have HOf := Lib.hid hof
 have HVB : Hid (∀ W, Below W0.heap.size W0 W → _) := Lib.hid fun W hW => hvb W (HB0.out.trans (hW.mono HB0.out.size))
 obtain ⟨a0, a1, a2, a3, a4, a5, a6, a7, a8, a9, a10⟩ := EBox.cells hbx
 have hwn : IntKind.u64.wrap (nn : Int) = (nn : Int) := by rw [IntKind.wrap_u64]; omega
 have hwk : IntKind.u64.wrap (k : Int) = (k : Int) := by rw [IntKind.wrap_u64]; omega
 clear hbx hval hof hvb
 replace hW0 := Lib.hid hW0
 go_enter Tryz.func61, Tryz.ntmps61
 go_upto_region 1 with fail
 rw [← hW0.out]
 go_wp2_with fail
 refine HVal.out.mono ?_
 rintro e w1 ⟨rfl, hb1⟩
 have HB1 := Lib.hid hb1
 clear a0 a1 a2 a3 a4 a5 a6 a7 a8 a9 a10
 obtain ⟨a0, -⟩ := EBox.cells (HX.out w1 hb1)
 clear hb1 HVal
 go_wp2_with fail
 refine (HOf.out _).mono ?_
 rintro e w2 ⟨rfl, hb2⟩
 have HB2 : Hid (Below W0.heap.size W0 w2) := Lib.hid (HB1.out.trans (hb2.mono HB1.out.size))
 clear hb2 a0
 obtain ⟨W3, hW3⟩ : ∃ W3, W3 = w2.alloc (.cells #[.string nm, .bool b0, .bool b1, .bool b2, .bool b3, .bool b4, .bool b5] 161) := ⟨_, rfl⟩
 have HB3 : Hid (Below W0.heap.size W0 W3) := Lib.hid (by rw [hW3]; exact HB2.out.alloc HB2.out.size _)
 have HRW : Hid (RowAt W3 w2.heap.size #[.string nm, .bool b0, .bool b1, .bool b2, .bool b3, .bool b4, .bool b5]) := Lib.hid (by rw [hW3]; exact heap_alloc_new w2 _)
 have hz3 : w2.heap.size < W3.heap.size := by rw [hW3]; simp
 replace hW3 := Lib.hid hW3
 obtain ⟨a0, a1, a2, a3, a4, a5, a6, a7, a8, a9, a10⟩ := EBox.cells (HX.out W3 HB3.out)
 go_upto_region 4 with fail
 rw [← hW3.out]
 go_wp2_with fail
 refine (HVB.out _ HB3.out).mono ?_
 rintro e wq ⟨vL, rfl, hownL, hbq⟩
 have HBQ : Hid (Below W0.heap.size W0 wq) := Lib.hid (HB3.out.trans (hbq.mono HB3.out.size))
 have HRQ : Hid (RowAt wq w2.heap.size #[.string nm, .bool b0, .bool b1, .bool b2, .bool b3, .bool b4, .bool b5]) := Lib.hid ((hbq.block _ hz3).trans HRW.out)
 have hzq : w2.heap.size < wq.heap.size := Nat.lt_of_lt_of_le hz3 hbq.size
 have hz0q : w.heap.size < wq.heap.size := Nat.lt_of_lt_of_le hzz HBQ.out.size
 have PLQ := Lib.hid hownL.read
 obtain ⟨AL, qL, rfl⟩ := hownL.read.form
 have HS : Hid (∀ W, Below wq.heap.size wq W → W.cell? ⟨w.heap.size, 1, none⟩ = some (.int .u64 (id : Nat)) ∧ W.cell? ⟨w.heap.size, 2, none⟩ = some (.int .i64 (nn : Nat)) ∧ W.cell? ⟨w.heap.size, 3, none⟩ = some (.int .u64 (at' : Nat)) ∧ W.cell? ⟨w.heap.size, 4, none⟩ = some (.string name) ∧ W.cell? ⟨w.heap.size, 5, none⟩ = some (.string text)) := Lib.hid fun W hW => by
  obtain ⟨-, c1, c2, c3, c4, c5, -⟩ := EBox.cells (HX.out W (HBQ.out.trans (hW.mono HBQ.out.size)))
  exact ⟨c1, c2, c3, c4, c5⟩
 clear hownL hbq a0 a1 a2 a3 a4 a5 a6 a7 a8 a9 a10 HRW HB3 HB2 HB1 HOf HVB
 replace hz3 := Lib.hid hz3
 go_upto_region 5 with fail
 go_cut [8] from 27 to 44 (fun z wx => ∃ b, z = .pointer (some ⟨b, 0, none⟩) ∧ Six wx b [l0, l1, l2, l3, l4, lv] ∧ Below wq.heap.size wq wx)
 case first =>
  have HB0 : Hid (Below wq.heap.size wq wq.drew) := Lib.hid (Da (Below.refl _ _))
  have PL_0 := Lib.hid (PLQ.out.later (Da (Below.refl _ _)))
  refine wp_region_noPanic ?_
  refine wp_region_held_drew (S := (fun w' : World => w'.cell? ⟨w.heap.size, 1, none⟩ = some (.int .u64 (id : Nat)) ∧ w'.cell? ⟨w.heap.size, 2, none⟩ = some (.int .i64 (nn : Nat)) ∧ w'.cell? ⟨w.heap.size, 3, none⟩ = some (.int .u64 (at' : Nat)) ∧ w'.cell? ⟨w.heap.size, 4, none⟩ = some (.string name) ∧ w'.cell? ⟨w.heap.size, 5, none⟩ = some (.string text))) (by kernel_rfl) ?_ (fun hH0 => ?_)
  ·exact HS.out _ HB0.out
  refine tk 0 rfl ?_
  refine tk 1 rfl ?_
  refine tk 3 rfl ?_
  refine tk 4 rfl ?_
  refine tk 5 rfl ?_
  refine tk 7 rfl ?_
  refine tk 8 rfl ?_
  refine tk 10 rfl ?_
  refine tk 11 rfl ?_
  refine tk 13 rfl ?_
  refine tk 14 rfl ?_
  refine tk 16 rfl ?_
  refine rd2 2 18 rfl rfl (fun K hK => ?_) fun K hK => ?_
  ·go_simp
   refine (HUi.out _).mono ?_
   rintro e u1 ⟨x0, rfl, ho, hb⟩
   have HG0 := Lib.hid ho.row_ge
   obtain ⟨A0, q0, rfl⟩ := ho.read.form
   have P0_1 := Lib.hid ho.read
   have PL_1 := Lib.hid (PL_0.out.later hb)
   have HB1 : Hid (Below wq.heap.size wq u1) := Lib.hid (HB0.out.trans (hb.mono HB0.out.size))
   clear ho hb
   go_wp2_with fail
   refine hK.out _ _ (HS.out _ HB1.out) (fun hH1 => ?_)
   clear hK K hH0
   try simp only [ap]
   refine rd2 6 18 rfl rfl (fun K hK => ?_) fun K hK => ?_
   ·go_simp
    refine (HUn.out _).mono ?_
    rintro e u2 ⟨x1, rfl, ho, hb⟩
    have HG1 := Lib.hid ho.row_ge
    obtain ⟨A1, q1, rfl⟩ := ho.read.form
    have P1_2 := Lib.hid ho.read
    have P0_2 := Lib.hid (P0_1.out.later hb)
    have PL_2 := Lib.hid (PL_1.out.later hb)
    have HB2 : Hid (Below wq.heap.size wq u2) := Lib.hid (HB1.out.trans (hb.mono HB1.out.size))
    clear ho hb
    go_wp2_with fail
    refine hK.out _ _ (HS.out _ HB2.out) (fun hH2 => ?_)
    clear hK K hH1
    try simp only [ap]
    refine rd2 9 18 rfl rfl (fun K hK => ?_) fun K hK => ?_
    ·go_simp
     refine (HUa.out _).mono ?_
     rintro e u3 ⟨x2, rfl, ho, hb⟩
     have HG2 := Lib.hid ho.row_ge
     obtain ⟨A2, q2, rfl⟩ := ho.read.form
     have P2_3 := Lib.hid ho.read
     have P0_3 := Lib.hid (P0_2.out.later hb)
     have P1_3 := Lib.hid (P1_2.out.later hb)
     have PL_3 := Lib.hid (PL_2.out.later hb)
     have HB3 : Hid (Below wq.heap.size wq u3) := Lib.hid (HB2.out.trans (hb.mono HB2.out.size))
     clear ho hb
     go_wp2_with fail
     refine hK.out _ _ (HS.out _ HB3.out) (fun hH3 => ?_)
     clear hK K hH2
     try simp only [ap]
     refine rd2 12 18 rfl rfl (fun K hK => ?_) fun K hK => ?_
     ·go_simp
      refine (HTn.out _).mono ?_
      rintro e u4 ⟨x3, rfl, ho, hb⟩
      have HG3 := Lib.hid ho.row_ge
      obtain ⟨A3, q3, rfl⟩ := ho.read.form
      have P3_4 := Lib.hid ho.read
      have P0_4 := Lib.hid (P0_3.out.later hb)
      have P1_4 := Lib.hid (P1_3.out.later hb)
      have P2_4 := Lib.hid (P2_3.out.later hb)
      have PL_4 := Lib.hid (PL_3.out.later hb)
      have HB4 : Hid (Below wq.heap.size wq u4) := Lib.hid (HB3.out.trans (hb.mono HB3.out.size))
      clear ho hb
      go_wp2_with fail
      refine hK.out _ _ (HS.out _ HB4.out) (fun hH4 => ?_)
      clear hK K hH3
      try simp only [ap]
      refine rd2 15 18 rfl rfl (fun K hK => ?_) fun K hK => ?_
      ·go_simp
       refine (HTt.out _).mono ?_
       rintro e u5 ⟨x4, rfl, ho, hb⟩
       have HG4 := Lib.hid ho.row_ge
       obtain ⟨A4, q4, rfl⟩ := ho.read.form
       have P4_5 := Lib.hid ho.read
       have P0_5 := Lib.hid (P0_4.out.later hb)
       have P1_5 := Lib.hid (P1_4.out.later hb)
       have P2_5 := Lib.hid (P2_4.out.later hb)
       have P3_5 := Lib.hid (P3_4.out.later hb)
       have PL_5 := Lib.hid (PL_4.out.later hb)
       have HB5 : Hid (Below wq.heap.size wq u5) := Lib.hid (HB4.out.trans (hb.mono HB4.out.size))
       clear ho hb
       go_wp2_with fail
       refine hK.out _ _ (HS.out _ HB5.out) (fun hH5 => ?_)
       clear hK K hH4
       try simp only [ap]
       refine tk 17 rfl ?_
       refine rd1 18 rfl fun K hK => ?_
       go_simp
       refine hK.out _ _ (HS.out _ (HB5.out.alloc HB5.out.size _)) (fun hH => ?_)
       clear hK K hH5
       try simp only [ap]
       refine rd1 19 rfl fun K hK => ?_
       go_simp
       refine hK.out _ _ (HS.out _ (HB5.out.alloc HB5.out.size _)) (fun hHH => ?_)
       clear hK K hH
       try simp only [ap]
       refine wpAnyH_done (by kernel_rfl) ?_ _
       refine NoPanic.normal ?_
       go_wp2_with fail
       go_meet
       case rel => exact ⟨_, rfl, ⟨_, _, _, _, _, _, heap_alloc_new u5 _, P0_5.out.later ((Below.refl _ _).alloc (Nat.le_refl _) _), P1_5.out.later ((Below.refl _ _).alloc (Nat.le_refl _) _), P2_5.out.later ((Below.refl _ _).alloc (Nat.le_refl _) _), P3_5.out.later ((Below.refl _ _).alloc (Nat.le_refl _) _), P4_5.out.later ((Below.refl _ _).alloc (Nat.le_refl _) _), PL_5.out.later ((Below.refl _ _).alloc (Nat.le_refl _) _)⟩, HB5.out.alloc HB5.out.size _⟩
      ·go_simp
       obtain ⟨u6, hu6⟩ : ∃ u, u = u4.alloc (.cells #[.slice none 0 0, .slice none 0 0, .slice none 0 0, .slice none 0 0, .slice none 0 0, .slice none 0 0] 165) := ⟨_, rfl⟩
       rw [← hu6]
       have hbz : Below u4.heap.size u4 u6 := by rw [hu6]; exact (Below.refl _ _).alloc (Nat.le_refl _) _
       have HR6 : Hid (u6.heap[u4.heap.size]? = some (.cells #[.slice none 0 0, .slice none 0 0, .slice none 0 0, .slice none 0 0, .slice none 0 0, .slice none 0 0] 165 (0, 0))) := Lib.hid (by rw [hu6]; exact heap_alloc_new u4 _)
       have P0_6 := Lib.hid (P0_4.out.later hbz)
       have P1_6 := Lib.hid (P1_4.out.later hbz)
       have P2_6 := Lib.hid (P2_4.out.later hbz)
       have P3_6 := Lib.hid (P3_4.out.later hbz)
       have PL_6 := Lib.hid (PL_4.out.later hbz)
       have HB6 : Hid (Below wq.heap.size wq u6) := Lib.hid (HB4.out.trans (hbz.mono HB4.out.size))
       have hgs6 : u4.heap.size < u6.heap.size := by rw [hu6]; simp
       have HD0 := P0_4.out.apart
       have HD1 := P1_4.out.apart
       have HD2 := P2_4.out.apart
       have HD3 := P3_4.out.apart
       have HDL := PL_4.out.apart
       clear hbz
       replace hu6 := Lib.hid hu6
       obtain ⟨ga, hga⟩ : ∃ ga, ga = u4.heap.size := ⟨_, rfl⟩
       have hgl : wq.heap.size ≤ ga := by rw [hga]; exact HB4.out.size
       rw [← hga] at HR6 hgs6 HDL HD0 HD1 HD2 HD3 ⊢
       replace hga := Lib.hid hga
       refine hK.out _ _ (HS.out _ HB6.out) (fun hH6 => ?_)
       clear hK K hH4
       try simp only [ap]
       refine rd1 15 rfl fun K hK => ?_
       go_simp
       refine (HTt.out _).mono ?_
       rintro e u7 ⟨x4, rfl, ho, hb⟩
       have HG4 := Lib.hid ho.row_ge
       obtain ⟨A4, q4, rfl⟩ := ho.read.form
       have P4_7 := Lib.hid ho.read
       have P0_7 := Lib.hid (P0_6.out.later hb)
       have P1_7 := Lib.hid (P1_6.out.later hb)
       have P2_7 := Lib.hid (P2_6.out.later hb)
       have P3_7 := Lib.hid (P3_6.out.later hb)
       have PL_7 := Lib.hid (PL_6.out.later hb)
       have HB7 : Hid (Below wq.heap.size wq u7) := Lib.hid (HB6.out.trans (hb.mono HB6.out.size))
       have HD4 : Fe _ ga := fun k hk => by have := HG4.out k hk; omega
       have hgs7 : ga < u7.heap.size := Nat.lt_of_lt_of_le hgs6 hb.size
       have HR7 := Lib.hid ((hb.block ga (Array.getElem?_eq_some_iff.1 HR6.out).1).trans HR6.out)
       clear ho hb
       go_wp2_with fail
       refine hK.out _ _ (HS.out _ HB7.out) (fun hH7 => ?_)
       clear hK K hH6
       try simp only [ap]
       refine tk 17 rfl ?_
       refine rd1 19 rfl fun K hK => ?_
       obtain ⟨y0, y1, y2, y3, y4, y5, z0, z1, z2, z3, z4, z5⟩ := Fh HR7.out
       go_simp
       with_reducible refine hK.out _ _ (HS.out _ (Gz HB7.out hgl _ _ _ _ _ _)) (fun hH => ?_)
       clear hK K hH7
       try simp only [ap]
       refine wpAnyH_done (by kernel_rfl) ?_ _
       refine NoPanic.normal ?_
       go_wp2_with fail
       go_meet
       case rel => exact ⟨_, rfl, ⟨_, _, _, _, _, _, Gw HR7.out _ _ _ _ _ _, P0_7.out.six HD0 _ _ _ _ _ _, P1_7.out.six HD1 _ _ _ _ _ _, P2_7.out.six HD2 _ _ _ _ _ _, P3_7.out.six HD3 _ _ _ _ _ _, P4_7.out.six HD4 _ _ _ _ _ _, PL_7.out.six HDL _ _ _ _ _ _⟩, Gz HB7.out hgl _ _ _ _ _ _⟩
     ·go_simp
      obtain ⟨u8, hu8⟩ : ∃ u, u = u3.alloc (.cells #[.slice none 0 0, .slice none 0 0, .slice none 0 0, .slice none 0 0, .slice none 0 0, .slice none 0 0] 165) := ⟨_, rfl⟩
      rw [← hu8]
      have hbz : Below u3.heap.size u3 u8 := by rw [hu8]; exact (Below.refl _ _).alloc (Nat.le_refl _) _
      have HR8 : Hid (u8.heap[u3.heap.size]? = some (.cells #[.slice none 0 0, .slice none 0 0, .slice none 0 0, .slice none 0 0, .slice none 0 0, .slice none 0 0] 165 (0, 0))) := Lib.hid (by rw [hu8]; exact heap_alloc_new u3 _)
      have P0_8 := Lib.hid (P0_3.out.later hbz)
      have P1_8 := Lib.hid (P1_3.out.later hbz)
      have P2_8 := Lib.hid (P2_3.out.later hbz)
      have PL_8 := Lib.hid (PL_3.out.later hbz)
      have HB8 : Hid (Below wq.heap.size wq u8) := Lib.hid (HB3.out.trans (hbz.mono HB3.out.size))
      have hgs8 : u3.heap.size < u8.heap.size := by rw [hu8]; simp
      have HD0 := P0_3.out.apart
      have HD1 := P1_3.out.apart
      have HD2 := P2_3.out.apart
      have HDL := PL_3.out.apart
      clear hbz
      replace hu8 := Lib.hid hu8
      obtain ⟨ga, hga⟩ : ∃ ga, ga = u3.heap.size := ⟨_, rfl⟩
      have hgl : wq.heap.size ≤ ga := by rw [hga]; exact HB3.out.size
      rw [← hga] at HR8 hgs8 HDL HD0 HD1 HD2 ⊢
      replace hga := Lib.hid hga
      refine hK.out _ _ (HS.out _ HB8.out) (fun hH8 => ?_)
      clear hK K hH3
      try simp only [ap]
      refine rd1 12 rfl fun K hK => ?_
      go_simp
      refine (HTn.out _).mono ?_
      rintro e u9 ⟨x3, rfl, ho, hb⟩
      have HG3 := Lib.hid ho.row_ge
      obtain ⟨A3, q3, rfl⟩ := ho.read.form
      have P3_9 := Lib.hid ho.read
      have P0_9 := Lib.hid (P0_8.out.later hb)
      have P1_9 := Lib.hid (P1_8.out.later hb)
      have P2_9 := Lib.hid (P2_8.out.later hb)
      have PL_9 := Lib.hid (PL_8.out.later hb)
      have HB9 : Hid (Below wq.heap.size wq u9) := Lib.hid (HB8.out.trans (hb.mono HB8.out.size))
      have HD3 : Fe _ ga := fun k hk => by have := HG3.out k hk; omega
      have hgs9 : ga < u9.heap.size := Nat.lt_of_lt_of_le hgs8 hb.size
      have HR9 := Lib.hid ((hb.block ga (Array.getElem?_eq_some_iff.1 HR8.out).1).trans HR8.out)
      clear ho hb
      go_wp2_with fail
      refine hK.out _ _ (HS.out _ HB9.out) (fun hH9 => ?_)
      clear hK K hH8
      try simp only [ap]
      refine rd1 15 rfl fun K hK => ?_
      go_simp
      refine (HTt.out _).mono ?_
      rintro e u10 ⟨x4, rfl, ho, hb⟩
      have HG4 := Lib.hid ho.row_ge
      obtain ⟨A4, q4, rfl⟩ := ho.read.form
      have P4_10 := Lib.hid ho.read
      have P0_10 := Lib.hid (P0_9.out.later hb)
      have P1_10 := Lib.hid (P1_9.out.later hb)
      have P2_10 := Lib.hid (P2_9.out.later hb)
      have P3_10 := Lib.hid (P3_9.out.later hb)
      have PL_10 := Lib.hid (PL_9.out.later hb)
      have HB10 : Hid (Below wq.heap.size wq u10) := Lib.hid (HB9.out.trans (hb.mono HB9.out.size))
      have HD4 : Fe _ ga := fun k hk => by have := HG4.out k hk; omega
      have hgs10 : ga < u10.heap.size := Nat.lt_of_lt_of_le hgs9 hb.size
      have HR10 := Lib.hid ((hb.block ga (Array.getElem?_eq_some_iff.1 HR9.out).1).trans HR9.out)
      clear ho hb
      go_wp2_with fail
      refine hK.out _ _ (HS.out _ HB10.out) (fun hH10 => ?_)
      clear hK K hH9
      try simp only [ap]
      refine tk 17 rfl ?_
      refine rd1 19 rfl fun K hK => ?_
      obtain ⟨y0, y1, y2, y3, y4, y5, z0, z1, z2, z3, z4, z5⟩ := Fh HR10.out
      go_simp
      with_reducible refine hK.out _ _ (HS.out _ (Gz HB10.out hgl _ _ _ _ _ _)) (fun hH => ?_)
      clear hK K hH10
      try simp only [ap]
      refine wpAnyH_done (by kernel_rfl) ?_ _
      refine NoPanic.normal ?_
      go_wp2_with fail
      go_meet
      case rel => exact ⟨_, rfl, ⟨_, _, _, _, _, _, Gw HR10.out _ _ _ _ _ _, P0_10.out.six HD0 _ _ _ _ _ _, P1_10.out.six HD1 _ _ _ _ _ _, P2_10.out.six HD2 _ _ _ _ _ _, P3_10.out.six HD3 _ _ _ _ _ _, P4_10.out.six HD4 _ _ _ _ _ _, PL_10.out.six HDL _ _ _ _ _ _⟩, Gz HB10.out hgl _ _ _ _ _ _⟩
    ·go_simp
     obtain ⟨u11, hu11⟩ : ∃ u, u = u2.alloc (.cells #[.slice none 0 0, .slice none 0 0, .slice none 0 0, .slice none 0 0, .slice none 0 0, .slice none 0 0] 165) := ⟨_, rfl⟩
     rw [← hu11]
     have hbz : Below u2.heap.size u2 u11 := by rw [hu11]; exact (Below.refl _ _).alloc (Nat.le_refl _) _
     have HR11 : Hid (u11.heap[u2.heap.size]? = some (.cells #[.slice none 0 0, .slice none 0 0, .slice none 0 0, .slice none 0 0, .slice none 0 0, .slice none 0 0] 165 (0, 0))) := Lib.hid (by rw [hu11]; exact heap_alloc_new u2 _)
     have P0_11 := Lib.hid (P0_2.out.later hbz)
     have P1_11 := Lib.hid (P1_2.out.later hbz)
     have PL_11 := Lib.hid (PL_2.out.later hbz)
     have HB11 : Hid (Below wq.heap.size wq u11) := Lib.hid (HB2.out.trans (hbz.mono HB2.out.size))
     have hgs11 : u2.heap.size < u11.heap.size := by rw [hu11]; simp
     have HD0 := P0_2.out.apart
     have HD1 := P1_2.out.apart
     have HDL := PL_2.out.apart
     clear hbz
     replace hu11 := Lib.hid hu11
     obtain ⟨ga, hga⟩ : ∃ ga, ga = u2.heap.size := ⟨_, rfl⟩
     have hgl : wq.heap.size ≤ ga := by rw [hga]; exact HB2.out.size
     rw [← hga] at HR11 hgs11 HDL HD0 HD1 ⊢
     replace hga := Lib.hid hga
     refine hK.out _ _ (HS.out _ HB11.out) (fun hH11 => ?_)
     clear hK K hH2
     try simp only [ap]
     refine rd1 9 rfl fun K hK => ?_
     go_simp
     refine (HUa.out _).mono ?_
     rintro e u12 ⟨x2, rfl, ho, hb⟩
     have HG2 := Lib.hid ho.row_ge
     obtain ⟨A2, q2, rfl⟩ := ho.read.form
     have P2_12 := Lib.hid ho.read
     have P0_12 := Lib.hid (P0_11.out.later hb)
     have P1_12 := Lib.hid (P1_11.out.later hb)
     have PL_12 := Lib.hid (PL_11.out.later hb)
     have HB12 : Hid (Below wq.heap.size wq u12) := Lib.hid (HB11.out.trans (hb.mono HB11.out.size))
     have HD2 : Fe _ ga := fun k hk => by have := HG2.out k hk; omega
     have hgs12 : ga < u12.heap.size := Nat.lt_of_lt_of_le hgs11 hb.size
     have HR12 := Lib.hid ((hb.block ga (Array.getElem?_eq_some_iff.1 HR11.out).1).trans HR11.out)
     clear ho hb
     go_wp2_with fail
     refine hK.out _ _ (HS.out _ HB12.out) (fun hH12 => ?_)
     clear hK K hH11
     try simp only [ap]
     refine rd1 12 rfl fun K hK => ?_
     go_simp
     refine (HTn.out _).mono ?_
     rintro e u13 ⟨x3, rfl, ho, hb⟩
     have HG3 := Lib.hid ho.row_ge
     obtain ⟨A3, q3, rfl⟩ := ho.read.form
     have P3_13 := Lib.hid ho.read
     have P0_13 := Lib.hid (P0_12.out.later hb)
     have P1_13 := Lib.hid (P1_12.out.later hb)
     have P2_13 := Lib.hid (P2_12.out.later hb)
     have PL_13 := Lib.hid (PL_12.out.later hb)
     have HB13 : Hid (Below wq.heap.size wq u13) := Lib.hid (HB12.out.trans (hb.mono HB12.out.size))
     have HD3 : Fe _ ga := fun k hk => by have := HG3.out k hk; omega
     have hgs13 : ga < u13.heap.size := Nat.lt_of_lt_of_le hgs12 hb.size
     have HR13 := Lib.hid ((hb.block ga (Array.getElem?_eq_some_iff.1 HR12.out).1).trans HR12.out)
     clear ho hb
     go_wp2_with fail
     refine hK.out _ _ (HS.out _ HB13.out) (fun hH13 => ?_)
     clear hK K hH12
     try simp only [ap]
     refine rd1 15 rfl fun K hK => ?_
     go_simp
     refine (HTt.out _).mono ?_
     rintro e u14 ⟨x4, rfl, ho, hb⟩
     have HG4 := Lib.hid ho.row_ge
     obtain ⟨A4, q4, rfl⟩ := ho.read.form
     have P4_14 := Lib.hid ho.read
     have P0_14 := Lib.hid (P0_13.out.later hb)
     have P1_14 := Lib.hid (P1_13.out.later hb)
     have P2_14 := Lib.hid (P2_13.out.later hb)
     have P3_14 := Lib.hid (P3_13.out.later hb)
     have PL_14 := Lib.hid (PL_13.out.later hb)
     have HB14 : Hid (Below wq.heap.size wq u14) := Lib.hid (HB13.out.trans (hb.mono HB13.out.size))
     have HD4 : Fe _ ga := fun k hk => by have := HG4.out k hk; omega
     have hgs14 : ga < u14.heap.size := Nat.lt_of_lt_of_le hgs13 hb.size
     have HR14 := Lib.hid ((hb.block ga (Array.getElem?_eq_some_iff.1 HR13.out).1).trans HR13.out)
     clear ho hb
     go_wp2_with fail
     refine hK.out _ _ (HS.out _ HB14.out) (fun hH14 => ?_)
     clear hK K hH13
     try simp only [ap]
     refine tk 17 rfl ?_
     refine rd1 19 rfl fun K hK => ?_
     obtain ⟨y0, y1, y2, y3, y4, y5, z0, z1, z2, z3, z4, z5⟩ := Fh HR14.out
     go_simp
     with_reducible refine hK.out _ _ (HS.out _ (Gz HB14.out hgl _ _ _ _ _ _)) (fun hH => ?_)
     clear hK K hH14
     try simp only [ap]
     refine wpAnyH_done (by kernel_rfl) ?_ _
     refine NoPanic.normal ?_
     go_wp2_with fail
     go_meet
     case rel => exact ⟨_, rfl, ⟨_, _, _, _, _, _, Gw HR14.out _ _ _ _ _ _, P0_14.out.six HD0 _ _ _ _ _ _, P1_14.out.six HD1 _ _ _ _ _ _, P2_14.out.six HD2 _ _ _ _ _ _, P3_14.out.six HD3 _ _ _ _ _ _, P4_14.out.six HD4 _ _ _ _ _ _, PL_14.out.six HDL _ _ _ _ _ _⟩, Gz HB14.out hgl _ _ _ _ _ _⟩
   ·go_simp
    obtain ⟨u15, hu15⟩ : ∃ u, u = u1.alloc (.cells #[.slice none 0 0, .slice none 0 0, .slice none 0 0, .slice none 0 0, .slice none 0 0, .slice none 0 0] 165) := ⟨_, rfl⟩
    rw [← hu15]
    have hbz : Below u1.heap.size u1 u15 := by rw [hu15]; exact (Below.refl _ _).alloc (Nat.le_refl _) _
    have HR15 : Hid (u15.heap[u1.heap.size]? = some (.cells #[.slice none 0 0, .slice none 0 0, .slice none 0 0, .slice none 0 0, .slice none 0 0, .slice none 0 0] 165 (0, 0))) := Lib.hid (by rw [hu15]; exact heap_alloc_new u1 _)
    have P0_15 := Lib.hid (P0_1.out.later hbz)
    have PL_15 := Lib.hid (PL_1.out.later hbz)
    have HB15 : Hid (Below wq.heap.size wq u15) := Lib.hid (HB1.out.trans (hbz.mono HB1.out.size))
    have hgs15 : u1.heap.size < u15.heap.size := by rw [hu15]; simp
    have HD0 := P0_1.out.apart
    have HDL := PL_1.out.apart
    clear hbz
    replace hu15 := Lib.hid hu15
    obtain ⟨ga, hga⟩ : ∃ ga, ga = u1.heap.size := ⟨_, rfl⟩
    have hgl : wq.heap.size ≤ ga := by rw [hga]; exact HB1.out.size
    rw [← hga] at HR15 hgs15 HDL HD0 ⊢
    replace hga := Lib.hid hga
    refine hK.out _ _ (HS.out _ HB15.out) (fun hH15 => ?_)
    clear hK K hH1
    try simp only [ap]
    refine rd1 6 rfl fun K hK => ?_
    go_simp
    refine (HUn.out _).mono ?_
    rintro e u16 ⟨x1, rfl, ho, hb⟩
    have HG1 := Lib.hid ho.row_ge
    obtain ⟨A1, q1, rfl⟩ := ho.read.form
    have P1_16 := Lib.hid ho.read
    have P0_16 := Lib.hid (P0_15.out.later hb)
    have PL_16 := Lib.hid (PL_15.out.later hb)
    have HB16 : Hid (Below wq.heap.size wq u16) := Lib.hid (HB15.out.trans (hb.mono HB15.out.size))
    have HD1 : Fe _ ga := fun k hk => by have := HG1.out k hk; omega
    have hgs16 : ga < u16.heap.size := Nat.lt_of_lt_of_le hgs15 hb.size
    have HR16 := Lib.hid ((hb.block ga (Array.getElem?_eq_some_iff.1 HR15.out).1).trans HR15.out)
    clear ho hb
    go_wp2_with fail
    refine hK.out _ _ (HS.out _ HB16.out) (fun hH16 => ?_)
    clear hK K hH15
    try simp only [ap]
    refine rd1 9 rfl fun K hK => ?_
    go_simp
    refine (HUa.out _).mono ?_
    rintro e u17 ⟨x2, rfl, ho, hb⟩
    have HG2 := Lib.hid ho.row_ge
    obtain ⟨A2, q2, rfl⟩ := ho.read.form
    have P2_17 := Lib.hid ho.read
    have P0_17 := Lib.hid (P0_16.out.later hb)
    have P1_17 := Lib.hid (P1_16.out.later hb)
    have PL_17 := Lib.hid (PL_16.out.later hb)
    have HB17 : Hid (Below wq.heap.size wq u17) := Lib.hid (HB16.out.trans (hb.mono HB16.out.size))
    have HD2 : Fe _ ga := fun k hk => by have := HG2.out k hk; omega
    have hgs17 : ga < u17.heap.size := Nat.lt_of_lt_of_le hgs16 hb.size
    have HR17 := Lib.hid ((hb.block ga (Array.getElem?_eq_some_iff.1 HR16.out).1).trans HR16.out)
    clear ho hb
    go_wp2_with fail
    refine hK.out _ _ (HS.out _ HB17.out) (fun hH17 => ?_)
    clear hK K hH16
    try simp only [ap]
    refine rd1 12 rfl fun K hK => ?_
    go_simp
    refine (HTn.out _).mono ?_
    rintro e u18 ⟨x3, rfl, ho, hb⟩
    have HG3 := Lib.hid ho.row_ge
    obtain ⟨A3, q3, rfl⟩ := ho.read.form
    have P3_18 := Lib.hid ho.read
    have P0_18 := Lib.hid (P0_17.out.later hb)
    have P1_18 := Lib.hid (P1_17.out.later hb)
    have P2_18 := Lib.hid (P2_17.out.later hb)
    have PL_18 := Lib.hid (PL_17.out.later hb)
    have HB18 : Hid (Below wq.heap.size wq u18) := Lib.hid (HB17.out.trans (hb.mono HB17.out.size))
    have HD3 : Fe _ ga := fun k hk => by have := HG3.out k hk; omega
    have hgs18 : ga < u18.heap.size := Nat.lt_of_lt_of_le hgs17 hb.size
    have HR18 := Lib.hid ((hb.block ga (Array.getElem?_eq_some_iff.1 HR17.out).1).trans HR17.out)
    clear ho hb
    go_wp2_with fail
    refine hK.out _ _ (HS.out _ HB18.out) (fun hH18 => ?_)
    clear hK K hH17
    try simp only [ap]
    refine rd1 15 rfl fun K hK => ?_
    go_simp
    refine (HTt.out _).mono ?_
    rintro e u19 ⟨x4, rfl, ho, hb⟩
    have HG4 := Lib.hid ho.row_ge
    obtain ⟨A4, q4, rfl⟩ := ho.read.form
    have P4_19 := Lib.hid ho.read
    have P0_19 := Lib.hid (P0_18.out.later hb)
    have P1_19 := Lib.hid (P1_18.out.later hb)
    have P2_19 := Lib.hid (P2_18.out.later hb)
    have P3_19 := Lib.hid (P3_18.out.later hb)
    have PL_19 := Lib.hid (PL_18.out.later hb)
    have HB19 : Hid (Below wq.heap.size wq u19) := Lib.hid (HB18.out.trans (hb.mono HB18.out.size))
    have HD4 : Fe _ ga := fun k hk => by have := HG4.out k hk; omega
    have hgs19 : ga < u19.heap.size := Nat.lt_of_lt_of_le hgs18 hb.size
    have HR19 := Lib.hid ((hb.block ga (Array.getElem?_eq_some_iff.1 HR18.out).1).trans HR18.out)
    clear ho hb
    go_wp2_with fail
    refine hK.out _ _ (HS.out _ HB19.out) (fun hH19 => ?_)
    clear hK K hH18
    try simp only [ap]
    refine tk 17 rfl ?_
    refine rd1 19 rfl fun K hK => ?_
    obtain ⟨y0, y1, y2, y3, y4, y5, z0, z1, z2, z3, z4, z5⟩ := Fh HR19.out
    go_simp
    with_reducible refine hK.out _ _ (HS.out _ (Gz HB19.out hgl _ _ _ _ _ _)) (fun hH => ?_)
    clear hK K hH19
    try simp only [ap]
    refine wpAnyH_done (by kernel_rfl) ?_ _
    refine NoPanic.normal ?_
    go_wp2_with fail
    go_meet
    case rel => exact ⟨_, rfl, ⟨_, _, _, _, _, _, Gw HR19.out _ _ _ _ _ _, P0_19.out.six HD0 _ _ _ _ _ _, P1_19.out.six HD1 _ _ _ _ _ _, P2_19.out.six HD2 _ _ _ _ _ _, P3_19.out.six HD3 _ _ _ _ _ _, P4_19.out.six HD4 _ _ _ _ _ _, PL_19.out.six HDL _ _ _ _ _ _⟩, Gz HB19.out hgl _ _ _ _ _ _⟩
  ·go_simp
   obtain ⟨u20, hu20⟩ : ∃ u, u = (wq.alloc (.cells #[.slice none 0 0, .slice none 0 0, .slice none 0 0, .slice none 0 0, .slice none 0 0, .slice none 0 0] 165)).drew := ⟨_, rfl⟩
   rw [← hu20]
   have hbz : Below wq.heap.size wq u20 := by rw [hu20]; exact Da ((Below.refl _ _).alloc (Nat.le_refl _) _)
   have HR20 : Hid (u20.heap[wq.heap.size]? = some (.cells #[.slice none 0 0, .slice none 0 0, .slice none 0 0, .slice none 0 0, .slice none 0 0, .slice none 0 0] 165 (0, 0))) := Lib.hid (by rw [hu20]; exact heap_alloc_new wq _)
   have PL_20 := Lib.hid (PLQ.out.later hbz)
   have HB20 : Hid (Below wq.heap.size wq u20) := Lib.hid hbz
   have hgs20 : wq.heap.size < u20.heap.size := by rw [hu20]; simp [World.drew]
   have HDL := PLQ.out.apart
   clear hbz
   replace hu20 := Lib.hid hu20
   obtain ⟨ga, hga⟩ : ∃ ga, ga = wq.heap.size := ⟨_, rfl⟩
   have hgl : wq.heap.size ≤ ga := by rw [hga]; exact Nat.le_refl _
   rw [← hga] at HR20 hgs20 HDL  ⊢
   replace hga := Lib.hid hga
   refine hK.out _ _ (HS.out _ HB20.out) (fun hH20 => ?_)
   clear hK K hH0
   try simp only [ap]
   refine rd1 2 rfl fun K hK => ?_
   go_simp
   refine (HUi.out _).mono ?_
   rintro e u21 ⟨x0, rfl, ho, hb⟩
   have HG0 := Lib.hid ho.row_ge
   obtain ⟨A0, q0, rfl⟩ := ho.read.form
   have P0_21 := Lib.hid ho.read
   have PL_21 := Lib.hid (PL_20.out.later hb)
   have HB21 : Hid (Below wq.heap.size wq u21) := Lib.hid (HB20.out.trans (hb.mono HB20.out.size))
   have HD0 : Fe _ ga := fun k hk => by have := HG0.out k hk; omega
   have hgs21 : ga < u21.heap.size := Nat.lt_of_lt_of_le hgs20 hb.size
   have HR21 := Lib.hid ((hb.block ga (Array.getElem?_eq_some_iff.1 HR20.out).1).trans HR20.out)
   clear ho hb
   go_wp2_with fail
   refine hK.out _ _ (HS.out _ HB21.out) (fun hH21 => ?_)
   clear hK K hH20
   try simp only [ap]
   refine rd1 6 rfl fun K hK => ?_
   go_simp
   refine (HUn.out _).mono ?_
   rintro e u22 ⟨x1, rfl, ho, hb⟩
   have HG1 := Lib.hid ho.row_ge
   obtain ⟨A1, q1, rfl⟩ := ho.read.form
   have P1_22 := Lib.hid ho.read
   have P0_22 := Lib.hid (P0_21.out.later hb)
   have PL_22 := Lib.hid (PL_21.out.later hb)
   have HB22 : Hid (Below wq.heap.size wq u22) := Lib.hid (HB21.out.trans (hb.mono HB21.out.size))
   have HD1 : Fe _ ga := fun k hk => by have := HG1.out k hk; omega
   have hgs22 : ga < u22.heap.size := Nat.lt_of_lt_of_le hgs21 hb.size
   have HR22 := Lib.hid ((hb.block ga (Array.getElem?_eq_some_iff.1 HR21.out).1).trans HR21.out)
   clear ho hb
   go_wp2_with fail
   refine hK.out _ _ (HS.out _ HB22.out) (fun hH22 => ?_)
   clear hK K hH21
   try simp only [ap]
   refine rd1 9 rfl fun K hK => ?_
   go_simp
   refine (HUa.out _).mono ?_
   rintro e u23 ⟨x2, rfl, ho, hb⟩
   have HG2 := Lib.hid ho.row_ge
   obtain ⟨A2, q2, rfl⟩ := ho.read.form
   have P2_23 := Lib.hid ho.read
   have P0_23 := Lib.hid (P0_22.out.later hb)
   have P1_23 := Lib.hid (P1_22.out.later hb)
   have PL_23 := Lib.hid (PL_22.out.later hb)
   have HB23 : Hid (Below wq.heap.size wq u23) := Lib.hid (HB22.out.trans (hb.mono HB22.out.size))
   have HD2 : Fe _ ga := fun k hk => by have := HG2.out k hk; omega
   have hgs23 : ga < u23.heap.size := Nat.lt_of_lt_of_le hgs22 hb.size
   have HR23 := Lib.hid ((hb.block ga (Array.getElem?_eq_some_iff.1 HR22.out).1).trans HR22.out)
   clear ho hb
   go_wp2_with fail
   refine hK.out _ _ (HS.out _ HB23.out) (fun hH23 => ?_)
   clear hK K hH22
   try simp only [ap]
   refine rd1 12 rfl fun K hK => ?_
   go_simp
   refine (HTn.out _).mono ?_
   rintro e u24 ⟨x3, rfl, ho, hb⟩
   have HG3 := Lib.hid ho.row_ge
   obtain ⟨A3, q3, rfl⟩ := ho.read.form
   have P3_24 := Lib.hid ho.read
   have P0_24 := Lib.hid (P0_23.out.later hb)
   have P1_24 := Lib.hid (P1_23.out.later hb)
   have P2_24 := Lib.hid (P2_23.out.later hb)
   have PL_24 := Lib.hid (PL_23.out.later hb)
   have HB24 : Hid (Below wq.heap.size wq u24) := Lib.hid (HB23.out.trans (hb.mono HB23.out.size))
   have HD3 : Fe _ ga := fun k hk => by have := HG3.out k hk; omega
   have hgs24 : ga < u24.heap.size := Nat.lt_of_lt_of_le hgs23 hb.size
   have HR24 := Lib.hid ((hb.block ga (Array.getElem?_eq_some_iff.1 HR23.out).1).trans HR23.out)
   clear ho hb
   go_wp2_with fail
   refine hK.out _ _ (HS.out _ HB24.out) (fun hH24 => ?_)
   clear hK K hH23
   try simp only [ap]
   refine rd1 15 rfl fun K hK => ?_
   go_simp
   refine (HTt.out _).mono ?_
   rintro e u25 ⟨x4, rfl, ho, hb⟩
   have HG4 := Lib.hid ho.row_ge
   obtain ⟨A4, q4, rfl⟩ := ho.read.form
   have P4_25 := Lib.hid ho.read
   have P0_25 := Lib.hid (P0_24.out.later hb)
   have P1_25 := Lib.hid (P1_24.out.later hb)
   have P2_25 := Lib.hid (P2_24.out.later hb)
   have P3_25 := Lib.hid (P3_24.out.later hb)
   have PL_25 := Lib.hid (PL_24.out.later hb)
   have HB25 : Hid (Below wq.heap.size wq u25) := Lib.hid (HB24.out.trans (hb.mono HB24.out.size))
   have HD4 : Fe _ ga := fun k hk => by have := HG4.out k hk; omega
   have hgs25 : ga < u25.heap.size := Nat.lt_of_lt_of_le hgs24 hb.size
   have HR25 := Lib.hid ((hb.block ga (Array.getElem?_eq_some_iff.1 HR24.out).1).trans HR24.out)
   clear ho hb
   go_wp2_with fail
   refine hK.out _ _ (HS.out _ HB25.out) (fun hH25 => ?_)
   clear hK K hH24
   try simp only [ap]
   refine tk 17 rfl ?_
   refine rd1 19 rfl fun K hK => ?_
   obtain ⟨y0, y1, y2, y3, y4, y5, z0, z1, z2, z3, z4, z5⟩ := Fh HR25.out
   go_simp
   with_reducible refine hK.out _ _ (HS.out _ (Gz HB25.out hgl _ _ _ _ _ _)) (fun hH => ?_)
   clear hK K hH25
   try simp only [ap]
   refine wpAnyH_done (by kernel_rfl) ?_ _
   refine NoPanic.normal ?_
   go_wp2_with fail
   go_meet
   case rel => exact ⟨_, rfl, ⟨_, _, _, _, _, _, Gw HR25.out _ _ _ _ _ _, P0_25.out.six HD0 _ _ _ _ _ _, P1_25.out.six HD1 _ _ _ _ _ _, P2_25.out.six HD2 _ _ _ _ _ _, P3_25.out.six HD3 _ _ _ _ _ _, P4_25.out.six HD4 _ _ _ _ _ _, PL_25.out.six HDL _ _ _ _ _ _⟩, Gz HB25.out hgl _ _ _ _ _ _⟩
 case rest =>
  obtain ⟨g, rfl, h6, hbx⟩ := hcut
  have H6 := Lib.hid h6
  have HBC : Hid (Below W0.heap.size W0 wc) := Lib.hid (HBQ.out.trans (hbx.mono HBQ.out.size))
  have HRC : Hid (RowAt wc w2.heap.size #[.string nm, .bool b0, .bool b1, .bool b2, .bool b3, .bool b4, .bool b5]) := Lib.hid ((hbx.block _ hzq).trans HRQ.out)
  have HBCq : Hid (wq.heap.size ≤ wc.heap.size) := Lib.hid hbx.size
  clear h6 hbx
  obtain ⟨W1, hW1⟩ : ∃ W, W = wc.alloc (.cells #[.int .u8 1] 5) := ⟨_, rfl⟩
  have HB1 : Hid (Below W0.heap.size W0 W1) := Lib.hid (by rw [hW1]; exact HBC.out.alloc HBC.out.size _)
  have HBc1 : Hid (Below wc.heap.size wc W1) := Lib.hid (by rw [hW1]; exact (Below.refl _ _).alloc (Nat.le_refl _) _)
  have H11 : Hid (BIn W1 (.slice (some ⟨wc.heap.size, 0, none⟩) 1 1) [1]) := Lib.hid (.inr ⟨_, 1, rfl, by simp, by decide, by rw [hW1]; simp, fun j u hu => by
   rcases j with _ | j
   ·have hv : Value.int .u8 1 = u := by simpa [bv] using hu
    rw [← hv, hW1]
    show World.cell? _ ⟨wc.heap.size, 0, none⟩ = _
    unfold World.cell?; rw [heap_alloc_new]; rfl
   ·simp at hu⟩)
  replace hW1 := Lib.hid hW1
  obtain ⟨a0, -⟩ := EBox.cells (HX.out W1 HB1.out)
  go_upto_region 6 with fail
  go_wp2_with (rw [← hW1.out])
  refine (HUk.out _).mono ?_
  rintro e w5 ⟨xk, rfl, ho, hb⟩
  obtain ⟨Ak, qk, rfl⟩ := ho.read.form
  have HB5 : Hid (Below W0.heap.size W0 w5) := Lib.hid (HB1.out.trans (hb.mono HB1.out.size))
  have HBc5 : Hid (Below wc.heap.size wc w5) := Lib.hid (HBc1.out.trans (hb.mono HBc1.out.size))
  have p0 := H11.out.later hb
  have p1 := ho.read
  obtain ⟨W6, hW6⟩ : ∃ W, W = w5.alloc (.cells #[.slice (some ⟨wc.heap.size, 0, none⟩) 1 1, .slice Ak lk.length qk] 40) := ⟨_, rfl⟩
  have hb6 : Below w5.heap.size w5 W6 := by rw [hW6]; exact (Below.refl _ _).alloc (Nat.le_refl _) _
  have HB6 : Hid (Below W0.heap.size W0 W6) := Lib.hid (HB5.out.trans (hb6.mono HB5.out.size))
  have HBc6 : Hid (Below wc.heap.size wc W6) := Lib.hid (HBc5.out.trans (hb6.mono HBc5.out.size))
  have HC : Hid (Calls Tryz.prog 62 #[.slice (some ⟨w5.heap.size, 0, none⟩) 2 2] W6 fun e w' => ∃ v, e = .returned v ∧ BOwn w' W6.heap.size v (1 :: lk) ∧ Below W6.heap.size W6 w') := Lib.hid (by
   have hp : PIn W6 (some ⟨w5.heap.size, 0, none⟩) 2 [[1], lk] := ⟨by simp, by decide, fun _ => ⟨w5.heap.size, 0, rfl, by rw [hW6]; simp, fun i hi => by
    have h0 : W6.heap[w5.heap.size]? = some (.cells #[.slice (some ⟨wc.heap.size, 0, none⟩) 1 1, .slice Ak lk.length qk] 40 (0, 0)) := by rw [hW6]; exact heap_alloc_new w5 _
    rcases i with _ | i
    ·exact ⟨_, by unfold World.cell?; rw [h0]; rfl, p0.later hb6⟩
    ·have h1 : i = 0 := by simp at hi; omega
     subst h1
     exact ⟨_, by unfold World.cell?; rw [h0]; rfl, p1.later hb6⟩⟩⟩
   have := Om [[1], lk] (some ⟨w5.heap.size, 0, none⟩) 2 W6 hp (by simp; omega) (by simp)
   simpa using this)
  replace hW6 := Lib.hid hW6
  clear p0 p1 ho hb hb6 a0
  go_wp2_with (rw [← hW6.out])
  refine HC.out.mono ?_
  rintro e w7 ⟨o, rfl, ho, hb⟩
  have HO7 := Lib.hid ho
  have HB7 := Lib.hid hb
  obtain ⟨-, r1, r2, r3, r4, r5, r6⟩ := RowAt.cells ((HBc6.out.trans (hb.mono HBc6.out.size)).block _ (Nat.lt_of_lt_of_le hzq HBCq.out) |>.trans HRC.out)
  clear ho hb HC
  go_wp2_with fail
  clear r1 r2 r3 r4 r5 r6
  have HLN := fun j => Sg [b0, b1, b2, b3, b4, b5] [l0, l1, l2, l3, l4, lv] j
  simp only [List.flatten_cons, List.flatten_nil, List.length_append, List.length_nil] at HLN
  replace HLN := Lib.hid HLN
  generalize hps : [l0, l1, l2, l3, l4, lv] = ps at *
  generalize hbs : [b0, b1, b2, b3, b4, b5] = bs at *
  replace hps := Lib.hid hps
  replace hbs := Lib.hid hbs
  go_loopw [9, 54] (fun o i wr => ∃ (j : Nat), j ≤ 6 ∧ i = .int .i64 j ∧ BOwn wr W6.heap.size o (1 :: (lk ++ sel bs ps j)) ∧ Below W6.heap.size W6 wr) (fun _ i _ => 6 - (intOf i).toNat)
  case atStart => exact ⟨0, by omega, rfl, by simpa [sel] using HO7.out, HB7.out⟩
  case round =>
   obtain ⟨j, hj, rfl, hown, hb⟩ := hrel
   have HO := Lib.hid hown
   have HB := Lib.hid hb
   have HBc := Lib.hid (HBc6.out.trans (hb.mono HBc6.out.size))
   obtain ⟨v0, v1, v2, v3, v4, v5, h6, p0, p1, p2, p3, p4, p5⟩ := H6.out.later HBc.out
   obtain ⟨c0, c1, c2, c3, c4, c5, -⟩ := Fh h6
   clear h6 hown hb
   have hln := HLN.out j
   have hbz := HB.out.size
   rcases (by omega : j = 0 ∨ j = 1 ∨ j = 2 ∨ j = 3 ∨ j = 4 ∨ j = 5 ∨ j = 6) with rfl | rfl | rfl | rfl | rfl | rfl | rfl
   ·have hix := ix0 (.bool b0) (.bool b1) (.bool b2) (.bool b3) (.bool b4) (.bool b5)
    have HSL : Hid (sel bs ps 1 = sel bs ps 0 ++ (if b0 then l0 else [])) := Lib.hid (by rw [← hps.out, ← hbs.out]; simp [sel])
    have hin : BIn wr v0 l0 := by have := p0; rw [← hps.out] at this; exact this
    clear p0 p1 p2 p3 p4 p5
    cases b0
    ·go_wp2_with fail
     exact ⟨⟨1, by omega, by go_num, by rw [HSL.out]; simpa using HO.out, HB.out⟩, by simp [intOf]⟩
    ·go_wp2_with (at_builtin; refine Dd _ rfl _ _ rfl W6.heap.size _ v0 (1 :: (lk ++ sel bs ps 0)) l0 rfl rfl HO.out hin (by simp only [List.length_cons, List.length_append]; omega) hbz ?_; intro u2 w2' hown2 hg2 hb2)
     have HO2 := Lib.hid hown2
     have HB2 := Lib.hid (HB.out.trans hb2)
     clear hown2 hb2
     go_wp2_with fail
     exact ⟨⟨1, by omega, by go_num, by rw [HSL.out]; simpa using HO2.out, HB2.out⟩, by simp [intOf]⟩
   ·have hix := ix1 (.bool b0) (.bool b1) (.bool b2) (.bool b3) (.bool b4) (.bool b5)
    have HSL : Hid (sel bs ps 2 = sel bs ps 1 ++ (if b1 then l1 else [])) := Lib.hid (by rw [← hps.out, ← hbs.out]; simp [sel])
    have hin : BIn wr v1 l1 := by have := p1; rw [← hps.out] at this; exact this
    clear p0 p1 p2 p3 p4 p5
    cases b1
    ·go_wp2_with fail
     exact ⟨⟨2, by omega, by go_num, by rw [HSL.out]; simpa using HO.out, HB.out⟩, by simp [intOf]⟩
    ·go_wp2_with (at_builtin; refine Dd _ rfl _ _ rfl W6.heap.size _ v1 (1 :: (lk ++ sel bs ps 1)) l1 rfl rfl HO.out hin (by simp only [List.length_cons, List.length_append]; omega) hbz ?_; intro u2 w2' hown2 hg2 hb2)
     have HO2 := Lib.hid hown2
     have HB2 := Lib.hid (HB.out.trans hb2)
     clear hown2 hb2
     go_wp2_with fail
     exact ⟨⟨2, by omega, by go_num, by rw [HSL.out]; simpa using HO2.out, HB2.out⟩, by simp [intOf]⟩
   ·have hix := ix2 (.bool b0) (.bool b1) (.bool b2) (.bool b3) (.bool b4) (.bool b5)
    have HSL : Hid (sel bs ps 3 = sel bs ps 2 ++ (if b2 then l2 else [])) := Lib.hid (by rw [← hps.out, ← hbs.out]; simp [sel])
    have hin : BIn wr v2 l2 := by have := p2; rw [← hps.out] at this; exact this
    clear p0 p1 p2 p3 p4 p5
    cases b2
    ·go_wp2_with fail
     exact ⟨⟨3, by omega, by go_num, by rw [HSL.out]; simpa using HO.out, HB.out⟩, by simp [intOf]⟩
    ·go_wp2_with (at_builtin; refine Dd _ rfl _ _ rfl W6.heap.size _ v2 (1 :: (lk ++ sel bs ps 2)) l2 rfl rfl HO.out hin (by simp only [List.length_cons, List.length_append]; omega) hbz ?_; intro u2 w2' hown2 hg2 hb2)
     have HO2 := Lib.hid hown2
     have HB2 := Lib.hid (HB.out.trans hb2)
     clear hown2 hb2
     go_wp2_with fail
     exact ⟨⟨3, by omega, by go_num, by rw [HSL.out]; simpa using HO2.out, HB2.out⟩, by simp [intOf]⟩
   ·have hix := ix3 (.bool b0) (.bool b1) (.bool b2) (.bool b3) (.bool b4) (.bool b5)
    have HSL : Hid (sel bs ps 4 = sel bs ps 3 ++ (if b3 then l3 else [])) := Lib.hid (by rw [← hps.out, ← hbs.out]; simp [sel])
    have hin : BIn wr v3 l3 := by have := p3; rw [← hps.out] at this; exact this
    clear p0 p1 p2 p3 p4 p5
    cases b3
    ·go_wp2_with fail
     exact ⟨⟨4, by omega, by go_num, by rw [HSL.out]; simpa using HO.out, HB.out⟩, by simp [intOf]⟩
    ·go_wp2_with (at_builtin; refine Dd _ rfl _ _ rfl W6.heap.size _ v3 (1 :: (lk ++ sel bs ps 3)) l3 rfl rfl HO.out hin (by simp only [List.length_cons, List.length_append]; omega) hbz ?_; intro u2 w2' hown2 hg2 hb2)
     have HO2 := Lib.hid hown2
     have HB2 := Lib.hid (HB.out.trans hb2)
     clear hown2 hb2
     go_wp2_with fail
     exact ⟨⟨4, by omega, by go_num, by rw [HSL.out]; simpa using HO2.out, HB2.out⟩, by simp [intOf]⟩
   ·have hix := ix4 (.bool b0) (.bool b1) (.bool b2) (.bool b3) (.bool b4) (.bool b5)
    have HSL : Hid (sel bs ps 5 = sel bs ps 4 ++ (if b4 then l4 else [])) := Lib.hid (by rw [← hps.out, ← hbs.out]; simp [sel])
    have hin : BIn wr v4 l4 := by have := p4; rw [← hps.out] at this; exact this
    clear p0 p1 p2 p3 p4 p5
    cases b4
    ·go_wp2_with fail
     exact ⟨⟨5, by omega, by go_num, by rw [HSL.out]; simpa using HO.out, HB.out⟩, by simp [intOf]⟩
    ·go_wp2_with (at_builtin; refine Dd _ rfl _ _ rfl W6.heap.size _ v4 (1 :: (lk ++ sel bs ps 4)) l4 rfl rfl HO.out hin (by simp only [List.length_cons, List.length_append]; omega) hbz ?_; intro u2 w2' hown2 hg2 hb2)
     have HO2 := Lib.hid hown2
     have HB2 := Lib.hid (HB.out.trans hb2)
     clear hown2 hb2
     go_wp2_with fail
     exact ⟨⟨5, by omega, by go_num, by rw [HSL.out]; simpa using HO2.out, HB2.out⟩, by simp [intOf]⟩
   ·have hix := ix5 (.bool b0) (.bool b1) (.bool b2) (.bool b3) (.bool b4) (.bool b5)
    have HSL : Hid (sel bs ps 6 = sel bs ps 5 ++ (if b5 then lv else [])) := Lib.hid (by rw [← hps.out, ← hbs.out]; simp [sel])
    have hin : BIn wr v5 lv := by have := p5; rw [← hps.out] at this; exact this
    clear p0 p1 p2 p3 p4 p5
    cases b5
    ·go_wp2_with fail
     exact ⟨⟨6, by omega, by go_num, by rw [HSL.out]; simpa using HO.out, HB.out⟩, by simp [intOf]⟩
    ·go_wp2_with (at_builtin; refine Dd _ rfl _ _ rfl W6.heap.size _ v5 (1 :: (lk ++ sel bs ps 5)) lv rfl rfl HO.out hin (by simp only [List.length_cons, List.length_append]; omega) hbz ?_; intro u2 w2' hown2 hg2 hb2)
     have HO2 := Lib.hid hown2
     have HB2 := Lib.hid (HB.out.trans hb2)
     clear hown2 hb2
     go_wp2_with fail
     exact ⟨⟨6, by omega, by go_num, by rw [HSL.out]; simpa using HO2.out, HB2.out⟩, by simp [intOf]⟩
   ·go_wp2_with fail
    exact bodyPost_ret (v := .tuple #[u9, .bool true]) (by simp [results, Tryz.results61, go_sem]) rfl ⟨_, rfl, by have hx := HO.out.base (base' := w.heap.size) (by have := HB0.out.size; have := HB6.out.size; omega); rw [← hps.out, ← hbs.out] at hx; exact hx, HB0.out.trans ((HB6.out.trans (HB.out.mono HB6.out.size)).mono HB0.out.size)⟩
end Bt
namespace Cn
open _root_.Go.Proofs.YtfmnacebgplpcaaGreat.Nm (Di Ds Df)
open Vt (VT Rep BoxAt Da Fc Fb KidsAt FF)
open Ev (EV Dk Dc Dn EBox Pa zeroT Dy tk ap rd1 rd2 Dj)
open Cm (Dl EvsIn EvsAt EvNew Ft DX)
open Bt (BOwn BIn PIn Db sb bv Om Gl Fdz)
def Ov (es : List EV) (bs : List (List Nat)) : Prop := bs.length = es.length ∧ ∀ i (h : i < es.length) (h' : i < bs.length) (lo hi : Nat) (vk vn : Int) (vf : Nat) (vs : ByteArray) (A : Option Addr) (m c : Nat) (w : World), Dk es[i] → Rep w lo hi es[i].v (Dn vk vn vf vs A m c) → hi ≤ w.heap.size →
 Calls Tryz.prog 61 #[.agg (Dc es[i] vk vn vf vs A m c)] w fun r w' => ∃ v, r = .returned (.tuple #[v, .bool true]) ∧ BOwn w' w.heap.size v bs[i] ∧ Below w.heap.size w w'
theorem Q413.Y410 (h : p := by
 have HV := Lib.hid (hB W0 hb0)
 obtain ⟨g0, g1, g2, g3, g4, g5, g6, g7, g8, g9, g10⟩ := EBox.cells hx0
 have HB0 := Lib.hid hb0
 clear hB hx0 hb0
 unfold Dc at HV hW0 ⊢
 replace hW0 := Lib.hid hW0
 go_enter Tryz.func60, Tryz.ntmps60
 go_upto_region 1 with fail
 rw [← hW0.out]
 go_wp2_with fail
 refine HV.out.mono ?_
 rintro x w1 ⟨v, rfl, ho, hb1⟩
 have HO := Lib.hid (ho.base HB0.out.size)
 have HB1 := Lib.hid (HB0.out.trans (hb1.mono HB0.out.size))
 clear hb1 ho g0 g1 g2 g3 g4 g5 g6 g7 g8 g9 g10
 go_wp2_with fail
 go_ret
 exact ⟨v, rfl, HO.out, HB1.out⟩) : p := h
theorem bfn_any (e : EV) (l : List Nat) (vk vn : Int) (vf : Nat) (vs : ByteArray) (A : Option Addr) (m c : Nat) (w : World) (hB : ∀ W, Below w.heap.size w W → Calls Tryz.prog 61 #[.agg (Dc e vk vn vf vs A m c)] W fun r w' => ∃ v, r = .returned (.tuple #[v, .bool true]) ∧ BOwn w' W.heap.size v l ∧ Below W.heap.size W w') :
  Calls Tryz.prog 60 #[.agg (Dc e vk vn vf vs A m c)] w fun r w' => ∃ v, r = .returned v ∧ BOwn w' w.heap.size v l ∧ Below w.heap.size w w' := by
 open Q413 in exact M410
def PRow (w : World) (base : Nat) (A : Option Addr) (cap n : Nat) (ls : List (List Nat)) : Prop := ls.length = n ∧ ∃ xs, w.ownsRow base 40 1 (.slice A n cap) n xs ∧ ∀ i (h : i < ls.length), ∃ v, xs[i]? = some v ∧ BIn w v ls[i] ∧ ∀ k, v.ownBlock = some k → Dl A ≠ some k
theorem prow_nil (w : World) (base : Nat) : PRow w base none 0 0 [] := ⟨rfl, [], ⟨rfl, .inl ⟨rfl, rfl⟩⟩, fun i h => absurd h (by simp)⟩
theorem UZ {w : World} {v : Value} {l : List Nat} (h : BIn w v l) : ∀ k, v.ownBlock = some k → k < w.heap.size := by
 intro k hk
 rcases h with ⟨rfl, -⟩ | ⟨ad, cap, rfl, h1, h2, h3, h4⟩
 ·cases hk
 ·cases hk; exact h3
theorem bin_keep {w w' : World} {v : Value} {l : List Nat} (h : BIn w v l) (hz : w.heap.size ≤ w'.heap.size) (hk : ∀ k, v.ownBlock = some k → w'.heap[k]? = w.heap[k]?) : BIn w' v l := by
 rcases h with h | ⟨ad, cap, rfl, h1, h2, h3, h4⟩
 ·exact .inl h
 ·exact .inr ⟨ad, cap, rfl, h1, h2, Nat.lt_of_lt_of_le h3 hz, fun j u hu => (World.cell?_of_block (a := ad.add j) (by rw [Bt.OY]; exact hk _ rfl)).trans (h4 j u hu)⟩
theorem PRow.pin {w : World} {base : Nat} {A : Option Addr} {cap n : Nat} {ls : List (List Nat)} (h : PRow w base A cap n ls) : PIn w A cap ls := by
 obtain ⟨rfl, xs, h1, h3⟩ := h
 rcases h1.2 with ⟨hv, h0⟩ | ⟨r, cp, cur, q1, q2, q3, q4, q5, q6, q7⟩
 ·exact M153
 ·injection q1 with hA hn hc
  subst hc
  refine ⟨q4, q5, fun hp => ⟨r, 0, hA, (Array.getElem?_eq_some_iff.1 q3).1, fun i hi => ?_⟩⟩
  obtain ⟨v, k1, k2, -⟩ := h3 i hi
  refine ⟨v, ?_, k2⟩
  rw [← k1, ← q7, List.getElem?_take_of_lt (by omega), Array.getElem?_toList]
  simp [World.cell?, q3]
theorem PRow.push {W w' : World} {base r H : Nat} {A : Option Addr} {cap cap' n : Nat} {ls : List (List Nat)} {l : List Nat} {xs : List Value} {v : Value}
  (hlen : ls.length = n) (hlx : xs.length = n) (hx : ∀ i (h : i < ls.length), ∃ v, xs[i]? = some v ∧ BIn W v ls[i] ∧ ∀ k, v.ownBlock = some k → Dl A ≠ some k) (hv : BIn W v l) (hrr : ∀ k, v.ownBlock = some k → Dl A ≠ some k)
  (hown : w'.ownsRow base 40 1 (.slice (some ⟨r, 0, none⟩) (n + 1) cap') (n + 1) (xs ++ [v])) (hgrow : W.grownBy w' (Dl A)) (hat : Dl A = some r ∨ r = H) (hH : W.heap.size ≤ H) :
  PRow w' base (some ⟨r, 0, none⟩) cap' (n + 1) (ls ++ [l]) := by
 have key : ∀ (v : Value) (l : List Nat), BIn W v l → (∀ k, v.ownBlock = some k → Dl A ≠ some k) → BIn w' v l ∧ ∀ k, v.ownBlock = some k → Dl (some ⟨r, 0, none⟩) ≠ some k := fun v l h1 h2 => by
  refine ⟨bin_keep h1 hgrow.size (fun k hk => hgrow.block k (UZ h1 k hk) (fun e => h2 k hk e.symm)), fun k hk e => ?_⟩
  obtain rfl : r = k := Option.some.inj e
  rcases hat with h | h
  ·exact h2 r hk h
  ·have := UZ h1 r hk; omega
 refine ⟨by simp [hlen], _, hown, fun i hil => ?_⟩
 simp at hil
 by_cases hlt : i < ls.length
 ·rw [List.getElem_append_left hlt]
  obtain ⟨u, k1, k2, k3⟩ := hx i hlt
  obtain ⟨z1, z2⟩ := key u _ k2 k3
  exact ⟨u, (List.getElem?_append_left (by omega)).trans k1, z1, z2⟩
 ·obtain rfl : i = ls.length := by omega
  rw [List.getElem_append_right (Nat.le_refl _)]
  simp only [Nat.sub_self, List.getElem_cons_zero]
  obtain ⟨z1, z2⟩ := key v _ hv hrr
  exact ⟨v, by rw [List.getElem?_append_right (by omega), hlx, hlen, Nat.sub_self]; rfl, z1, z2⟩
theorem Tryz.infoY : (Tryz.prog.info? 40).map (fun i => (i.zero, i.size, i.bytes)) = some (some (.slice none 0 0), 1, 24) := by kernel_rfl
theorem PK {w : World} {v : Value} {l : List Nat} (h : BIn w v l) : v.oneCell' = true := by
 rcases h with ⟨rfl, -⟩ | ⟨ad, cap, rfl, -⟩ <;> rfl
theorem XI (es : List EV) (hl40 : es.length ≤ 1099511627775) (bs : List (List Nat)) (hEB : Ov es bs) (A : Option Addr) (cap : Nat) (w : World) (h : EvsIn w A cap es) :
  Calls Tryz.prog 59 #[.slice A es.length cap, .func (.func 60) #[] #[]] w fun r w' => ∃ A2 cap2, r = .returned (.slice A2 es.length cap2) ∧ Below w.heap.size w w' ∧ PRow w' w.heap.size A2 cap2 es.length bs := by
 have hl := h.le
 have hc := h.cap_le
 simp only [maxLen] at hc
 obtain ⟨i0, hi0, hz0, hz1, hz2⟩ := info_parts Tryz.infoY
 have HK := Lib.hid h; clear h
 have hbl := hEB.1
 have HE := Lib.hid hEB.2
 clear hEB
 go_enter Tryz.func59, Tryz.ntmps59
 go_wp2_with fail
 go_loopw [5, 10] (fun out i wr => ∃ (j : Nat) (A2 : Option Addr) (cap2 : Nat), j ≤ es.length ∧ i = .int .i64 j ∧ out = .slice A2 j cap2 ∧ PRow wr w.heap.size A2 cap2 j (bs.take j) ∧ Below w.heap.size w wr) (fun _ i _ => es.length - (intOf i).toNat)
 case atStart => exact ⟨0, none, 0, by omega, rfl, rfl, by simpa using prow_nil w w.heap.size, Below.refl _ _⟩
 case round =>
  obtain ⟨j, A2, cap2, hj, rfl, rfl, hrow, hb⟩ := hrel
  by_cases hlt : j < es.length
  ·obtain ⟨b, off, lo, hi, vk, vn, vf, vs, A', m, c, rfl, hbl', hf, hv0, hhi0, e0, e1, e2, e3, e4, e5, e6, e7, e8, e9, e10⟩ := HK.out.get j hlt
   have HB := Lib.hid hb
   have hbs := hb.size
   have hcw : ∀ o, wr.cell? ⟨b, o, none⟩ = w.cell? ⟨b, o, none⟩ := fun o => HB.out.cell (p := ⟨b, o, none⟩) hbl'
   have d0 := (hcw _).trans e0; have d1 := (hcw _).trans e1; have d2 := (hcw _).trans e2; have d3 := (hcw _).trans e3; have d4 := (hcw _).trans e4; have d5 := (hcw _).trans e5; have d6 := (hcw _).trans e6; have d7 := (hcw _).trans e7; have d8 := (hcw _).trans e8; have d9 := (hcw _).trans e9; have d10 := (hcw _).trans e10
   have hv := hv0.later (HB.out.mono hhi0)
   have hhi : hi ≤ wr.heap.size := Nat.le_trans hhi0 hbs
   clear e0 e1 e2 e3 e4 e5 e6 e7 e8 e9 e10 hcw hv0 hb
   obtain ⟨W1, hW1⟩ : ∃ W1, W1 = wr.alloc (.cells (Dc es[j] vk vn vf vs A' m c) 71) := ⟨_, rfl⟩
   have hb1 : Below wr.heap.size wr W1 := by rw [hW1]; exact (Below.refl _ _).alloc (Nat.le_refl _) _
   have hx1 : EBox W1 wr.heap.size (Dc es[j] vk vn vf vs A' m c) := by rw [hW1]; exact Gg ..
   obtain ⟨g0, g1, g2, g3, g4, g5, g6, g7, g8, g9, g10⟩ := EBox.cells hx1
   have hjb : j < bs.length := by omega
   have HC := Lib.hid (bfn_any es[j] bs[j] vk vn vf vs A' m c W1 (fun W hW => HE.out j hlt hjb lo hi vk vn vf vs A' m c W hf ((hv.later (hb1.mono hhi)).later (hW.mono (Nat.le_trans hhi hb1.size))) (Nat.le_trans hhi (Nat.le_trans hb1.size hW.size))))
   have HF := Lib.hid hf; have HB1 := Lib.hid hb1
   obtain ⟨hlen, xs, hxo, hxe⟩ := hrow
   have hlx : xs.length = j := by have := hxo.1; omega
   have HOWN : Hid (∀ W, Below wr.heap.size wr W → W.ownsRow w.heap.size 40 1 (.slice A2 j cap2) j xs) := Lib.hid fun W hW => Gc hxo hW
   have HRO := Lib.hid (own_lt hxo)
   have HXE := Lib.hid hxe
   unfold Dc at HC hW1
   replace hW1 := Lib.hid hW1
   clear hxe hxo hf hv hx1 hb1
   go_upto_region 5 with fail
   rw [← hW1.out]
   clear d0 d1 d2 d3 d4 d5 d6 d7 d8 d9 d10
   go_wp2_with fail
   refine HC.out.mono ?_
   rintro x w2 ⟨v, rfl, ho, hb2⟩
   obtain ⟨Av, cv, rfl⟩ := ho.read.form
   generalize hnb : bs[j].length = nb at *
   obtain ⟨v, hv⟩ : ∃ v, v = Value.slice Av nb cv := ⟨_, rfl⟩
   rw [← hv] at ho
   have HVV := Lib.hid hv
   clear hnb
   have HB2 : Hid (Below wr.heap.size wr w2) := Lib.hid (HB1.out.trans (hb2.mono HB1.out.size))
   have h1c := PK ho.read
   obtain ⟨W4, hW4⟩ : ∃ W4, W4 = w2.alloc (.cells #[v] 40) := ⟨_, rfl⟩
   have hW4' := hW4
   rw [hv] at hW4'
   have K1 : Hid (Below wr.heap.size wr W4) := Lib.hid (by rw [hW4]; exact HB2.out.alloc HB2.out.size _)
   have K2 : Hid (∀ q u, [v][q]? = some u → W4.cell? ((⟨w2.heap.size, 0, none⟩ : Addr).add q) = some u) := Lib.hid (World.news_of_block (cs := #[v]) (t := 40) (fr := (0, 0)) (by rw [hW4]; exact heap_alloc_new w2 _))
   have K3 : Hid (BIn W4 v bs[j]) := Lib.hid (by rw [hW4]; exact ho.read.later ((Below.refl _ _).alloc (Nat.le_refl _) _))
   have K4 : Hid (∀ k, v.ownBlock = some k → Dl A2 ≠ some k) := Lib.hid fun k hk e => by
    have h1 := ho.row_ge k hk
    have h2 := (HRO.out k e).1
    have h3 := HB1.out.size
    omega
   have KO := Lib.hid (HOWN.out _ K1.out)
   have hbs4 := Nat.le_trans hbs K1.out.size
   have hw1s := HB1.out.size
   replace hW4 := Lib.hid hW4'
   rw [hv] at K2 h1c
   clear hW4' hv
   clear ho hb2 g0 g1 g2 g3 g4 g5 g6 g7 g8 g9 g10
   go_wp2_with (at_builtin; rw [← hW4.out]; refine wpList_append_lies _ rfl _ _ 38 rfl w.heap.size 40 i0 _ 1 24 Tryz.underlying38 hi0 hz0 hz1 hz2 rfl (by decide) (.slice A2 j cap2) j xs rfl KO.out ⟨w2.heap.size, 0, none⟩ 1 1 [.slice Av nb cv] rfl rfl K2.out (by intro u hu; rw [List.mem_singleton.1 hu]; exact h1c) (by decide) (by simp only [maxLen]; omega) (by omega) hbs4 _ rfl ?_; intro r2 cap4 w5 hown5 hgrow5 hat5 hrl5)
   rw [Cm.DZ] at hgrow5 hat5
   rw [← HVV.out] at hown5
   have HP : Hid (PRow w5 w.heap.size (some ⟨r2, 0, none⟩) cap4 (j + 1) (bs.take (j + 1))) := Lib.hid (by
    rw [List.take_succ_eq_append_getElem hjb]
    exact PRow.push (cap := 0) (H := W4.heap.size) hlen hlx (fun i h => by
     obtain ⟨u, k1, k2, k3⟩ := HXE.out i h
     exact ⟨u, k1, k2.later K1.out, k3⟩) K3.out K4.out hown5 hgrow5 hat5 (Nat.le_refl _))
   have HB5 : Hid (Below w.heap.size w w5) := Lib.hid ((HB.out.trans (K1.out.mono hbs)).trans ⟨hgrow5.os, hgrow5.tape, hgrow5.output, hgrow5.size, fun b hb => hgrow5.block b (by omega) (fun e => by have := (HRO.out b e.symm).2; omega)⟩)
   clear hown5 hgrow5 hat5
   exact ⟨⟨j + 1, _, cap4, by omega, by go_num, rfl, HP.out, HB5.out⟩, by simp [intOf]; omega⟩
  ·have hj' : j = es.length := by omega
   subst hj'
   rw [List.take_of_length_le (by omega)] at hrow
   have HE := Lib.hid hrow; have HB := Lib.hid hb
   clear hrow hb
   go_wp2_with fail
   go_ret
   exact ⟨A2, cap2, rfl, HB.out, HE.out⟩
def GR (f : ByteArray) (at' n : Nat) (bs : List (List Nat)) : List Nat := (Db 10 f.size ++ sb f) ++ (Db 10 at' ++ (Db 10 n ++ bs.flatten))
theorem GT {w : World} {base : Nat} {v : Value} {l : List Nat} (h : BOwn w base v l) : ∃ A n cap, v = .slice A n cap := by
 obtain ⟨A, cap, e⟩ := h.read.form
 exact ⟨A, _, cap, e⟩
theorem Q465.Y463 (h : p := by
 have hz0 : W0.heap.size = w.heap.size + 1 := by rw [hW0]; simp
 have HV := Lib.hid (Oo es f (by simp only [maxLen]; omega) at' hat A cap W0 (h.later hb0))
 rw [hval] at HV
 have HM := Lib.hid fun W (hW : Below W0.heap.size W0 W) => XI es hl40 bs hEB A cap W ((h.later hb0).later hW)
 have hbl := hEB.1
 obtain ⟨c0, c1, c2, -⟩ := hx0.cells
 have HX0 := Lib.hid hx0; have HB0 := Lib.hid hb0
 have HT := Lib.hid fun W => Gl f (by omega) W
 have HU := Lib.hid fun W x hx => Fdz x hx W
 have hn64 : es.length < 18446744073709551616 := by omega
 have HWR : Hid (IntKind.u64.wrap (es.length : Int) = (es.length : Int)) := Lib.hid (IntWalk.u64_in _ (by omega))
 have hsum : ([Db 10 f.size ++ sb f, Db 10 at', Db 10 es.length, bs.flatten] : List (List Nat)).flatten.length ≤ 35184372088832 := by
  have h1 := Bt.Dh 10 f.size
  have h2 := Bt.Dh 10 at'
  have h3 := Bt.Dh 10 es.length
  have h4 := Bt.Fi f
  simp only [List.flatten_cons, List.flatten_nil, List.length_append, List.length_nil]
  omega
 have hlen4 : ([Db 10 f.size ++ sb f, Db 10 at', Db 10 es.length, bs.flatten] : List (List Nat)).length ≤ 35184372088832 := by simp
 have HFL : Hid (([Db 10 f.size ++ sb f, Db 10 at', Db 10 es.length, bs.flatten] : List (List Nat)).flatten = GR f at' es.length bs) := Lib.hid (by simp [GR])
 replace hW0 := Lib.hid hW0
 have HSUM := Lib.hid hsum; have HLEN4 := Lib.hid hlen4; have HFLAT := Lib.hid hflat
 clear h hx0 hb0 hEB hval hsum hlen4 hflat
 go_enter Tryz.func31, Tryz.ntmps31
 go_upto_region 1 with fail
 rw [← hW0.out]
 go_wp2_with fail
 refine HV.out.mono ?_
 rintro x w1 ⟨rfl, hb1⟩
 have HB1 := Lib.hid hb1
 obtain ⟨d0, d1, d2, -⟩ := (HX0.out.later hb1 (by omega)).cells
 clear hb1 c0 c1 c2
 go_wp2_with fail
 refine (HM.out _ HB1.out).mono ?_
 rintro x w2 ⟨A2, cap2, rfl, hb2, hrow⟩
 have hb02 : Below W0.heap.size W0 w2 := HB1.out.trans (hb2.mono HB1.out.size)
 have HBW : Hid (Below w.heap.size w w2) := Lib.hid (HB0.out.trans (hb02.mono (by omega)))
 have KS : Hid (∀ W', Below w2.heap.size w2 W' → W'.cell? ⟨w.heap.size, 0, none⟩ = some (.string f) ∧ W'.cell? ⟨w.heap.size, 1, none⟩ = some (.int .u64 at')) := Lib.hid fun W' hW => by
  obtain ⟨z0, z1, -⟩ := (HX0.out.later (hb02.trans (hW.mono hb02.size)) (by omega)).cells
  exact ⟨z0, z1⟩
 have HCC : Hid (∀ W', Below w2.heap.size w2 W' → Calls Tryz.prog 62 #[.slice A2 es.length cap2] W' fun e w' => ∃ v, e = .returned v ∧ BOwn w' W'.heap.size v bs.flatten ∧ Below W'.heap.size W' w') := Lib.hid fun W' hW => by
  have := Om bs A2 cap2 W' (hrow.pin.later hW) (by have := HFLAT.out; omega) (by omega)
  rwa [hbl] at this
 clear hb2 hb02 hrow d0 d1 d2
 go_upto_region 4 with fail
 refine wp_region_noPanic ?_
 refine wp_region_held_drew (S := fun W' : World => W'.cell? ⟨w.heap.size, 0, none⟩ = some (.string f) ∧ W'.cell? ⟨w.heap.size, 1, none⟩ = some (.int .u64 at')) (by kernel_rfl) ?_ (fun hHeld => ?_)
 ·exact KS.out _ (Da (Below.refl _ _))
 refine tk 0 rfl ?_
 refine tk 1 rfl ?_
 refine tk 3 rfl ?_
 refine tk 4 rfl ?_
 refine tk 6 rfl ?_
 refine tk 7 rfl ?_
 refine tk 8 rfl ?_
 refine tk 10 rfl ?_
 refine rd1 2 rfl fun K hK => ?_
 go_simp
 refine (HT.out _).mono ?_
 rintro x v1 ⟨b1, rfl, hown, hb⟩
 obtain ⟨A10, n10, c10, rfl⟩ := GT hown
 have HB1 : Hid (Below w2.heap.size w2 v1) := Lib.hid (Below.trans (Da (Below.refl _ _)) hb)
 have HO1 := Lib.hid hown
 clear hown hb
 go_wp2_with fail
 refine hK.out _ _ (KS.out _ HB1.out) (fun hHeld2 => ?_)
 clear hK K
 try simp only [ap]
 refine rd1 5 rfl fun K hK => ?_
 go_simp
 refine (HU.out _ _ hat).mono ?_
 rintro x v2 ⟨b2, rfl, hown, hb⟩
 obtain ⟨A20, n20, c20, rfl⟩ := GT hown
 have HB2 : Hid (Below w2.heap.size w2 v2) := Lib.hid (HB1.out.trans (hb.mono HB1.out.size))
 have HO2 := Lib.hid hown
 have HI1 := Lib.hid (HO1.out.read.later hb)
 clear hown hb
 go_wp2_with fail
 refine hK.out _ _ (KS.out _ HB2.out) (fun hHeld2 => ?_)
 clear hK K
 try simp only [ap]
 refine rd1 9 rfl fun K hK => ?_
 go_simp
 rw [HWR.out]
 refine (HU.out _ _ hn64).mono ?_
 rintro x v3 ⟨b3, rfl, hown, hb⟩
 obtain ⟨A30, n30, c30, rfl⟩ := GT hown
 have HB3 : Hid (Below w2.heap.size w2 v3) := Lib.hid (HB2.out.trans (hb.mono HB2.out.size))
 have HO3 := Lib.hid hown
 have HJ1 := Lib.hid (HI1.out.later hb)
 have HI2 := Lib.hid (HO2.out.read.later hb)
 clear hown hb
 go_wp2_with fail
 refine hK.out _ _ (KS.out _ HB3.out) (fun hHeld2 => ?_)
 clear hK K
 try simp only [ap]
 refine rd1 11 rfl fun K hK => ?_
 go_simp
 refine (HCC.out _ HB3.out).mono ?_
 rintro x v4 ⟨b4, rfl, hown, hb⟩
 obtain ⟨A40, n40, c40, rfl⟩ := GT hown
 have HB4 : Hid (Below w2.heap.size w2 v4) := Lib.hid (HB3.out.trans (hb.mono HB3.out.size))
 have HO4 := Lib.hid hown
 have HK1 := Lib.hid (HJ1.out.later hb)
 have HK2 := Lib.hid (HI2.out.later hb)
 have HK3 := Lib.hid (HO3.out.read.later hb)
 clear hown hb
 go_wp2_with fail
 refine hK.out _ _ (KS.out _ HB4.out) (fun hHeld2 => ?_)
 clear hK K
 try simp only [ap]
 refine rd1 12 rfl fun K hK => ?_
 go_simp
 obtain ⟨v5, hv5⟩ : ∃ x, x = v4.alloc (.cells #[.slice A10 n10 c10, .slice A20 n20 c20, .slice A30 n30 c30, .slice A40 n40 c40] 40) := ⟨_, rfl⟩
 rw [← hv5]
 have hb : Below v4.heap.size v4 v5 := by rw [hv5]; exact (Below.refl _ _).alloc (Nat.le_refl _) _
 have hblk : v5.heap[v4.heap.size]? = some (.cells #[.slice A10 n10 c10, .slice A20 n20 c20, .slice A30 n30 c30, .slice A40 n40 c40] 40 (0, 0)) := by rw [hv5]; exact heap_alloc_new v4 _
 have HPI : Hid (PIn v5 (some ⟨v4.heap.size, 0, none⟩) 4 [Db 10 f.size ++ sb f, Db 10 at', Db 10 es.length, bs.flatten]) := Lib.hid ⟨by simp, by simp only [maxLen]; omega, fun _ => ⟨v4.heap.size, 0, rfl, (Array.getElem?_eq_some_iff.1 hblk).1, fun i hi => by
  simp only [List.length_cons, List.length_nil] at hi
  rcases (by omega : i = 0 ∨ i = 1 ∨ i = 2 ∨ i = 3) with rfl | rfl | rfl | rfl
  ·exact ⟨.slice A10 n10 c10, by simp [World.cell?, hblk], HK1.out.later hb⟩
  ·exact ⟨.slice A20 n20 c20, by simp [World.cell?, hblk], HK2.out.later hb⟩
  ·exact ⟨.slice A30 n30 c30, by simp [World.cell?, hblk], HK3.out.later hb⟩
  ·exact ⟨.slice A40 n40 c40, by simp [World.cell?, hblk], HO4.out.read.later hb⟩⟩⟩
 have HB5 : Hid (Below w2.heap.size w2 v5) := Lib.hid (HB4.out.trans (hb.mono HB4.out.size))
 have HC5 := Lib.hid (Om _ _ _ v5 HPI.out HSUM.out HLEN4.out)
 clear hb hblk
 replace hv5 := Lib.hid hv5
 refine hK.out _ _ (KS.out _ HB5.out) (fun hHeld2 => ?_)
 clear hK K
 try simp only [ap]
 refine rd1 13 rfl fun K hK => ?_
 go_simp
 refine HC5.out.mono ?_
 rintro x v6 ⟨b6, rfl, hown, hb⟩
 have HB6 : Hid (Below w2.heap.size w2 v6) := Lib.hid (HB5.out.trans (hb.mono HB5.out.size))
 have HO6 := Lib.hid hown
 clear hown hb
 go_wp2_with fail
 refine hK.out _ _ (KS.out _ HB6.out) (fun hHeld2 => ?_)
 clear hK K
 try simp only [ap]
 refine tk 14 rfl ?_
 refine tk 15 rfl ?_
 refine wpAnyH_done (by kernel_rfl) ?_ _
 refine NoPanic.normal ?_
 go_wp2_with fail
 refine bodyPost_ret (v := .tuple #[b6, .bool true]) (by simp [results, Tryz.results31, go_sem]) rfl ?_
 refine ⟨b6, rfl, ?_, HBW.out.trans (HB6.out.mono HBW.out.size)⟩
 have h6 := HO6.out
 rw [HFL.out] at h6
 exact h6.base (by have := HBW.out.size; have := HB5.out.size; omega)) : p := h
theorem Jz (es : List EV) (hl40 : es.length ≤ 1099511627775) (bs : List (List Nat)) (hEB : Ov es bs) (hflat : bs.flatten.length ≤ 17592186044416) (f : ByteArray) (at' : Nat) (hat : at' < 18446744073709551616) (A : Option Addr) (cap : Nat) (w : World) (h : EvsIn w A cap es) (hval : Dt f at' es = true) :
  Calls Tryz.prog 31 #[.agg #[.string f, .int .u64 at', .slice A es.length cap]] w fun r w' => ∃ v, r = .returned (.tuple #[v, .bool true]) ∧ BOwn w' w.heap.size v (GR f at' es.length bs) ∧ Below w.heap.size w w' := by
 have hfz : f.size ≤ 1000 := by
  unfold Dt at hval
  simp only [Bool.and_eq_true, decide_eq_true_iff] at hval
  exact hval.1.1.1.2
 open Q465 in exact M463
open Ev (PR Dm JT Gr)
open Bt (OK)
def BRd (w : World) (v : Value) (l : List Nat) : Prop := (v = .slice none 0 0 ∧ l = []) ∨ ∃ b off cap, v = .slice (some ⟨b, off, none⟩) l.length cap ∧ l.length ≤ cap ∧ cap ≤ maxLen ∧ b < w.heap.size ∧ ∀ j (h : j < l.length), w.cell? ⟨b, off + j, none⟩ = some (.int .u8 (l[j] : Nat))
theorem Fq {B n : Nat} {a w : World} (h : Below B a w) : Below B a (w.drewN n) := ⟨h.os, h.tape, h.output, h.size, h.block⟩
theorem BRd.later {w w' : World} {v : Value} {l : List Nat} (h : BRd w v l) (hb : Below w.heap.size w w') : BRd w' v l := by
 rcases h with h | ⟨b, off, cap, h1, h2, h3, h4, h5⟩
 ·exact .inl h
 ·exact .inr ⟨b, off, cap, h1, h2, h3, Nat.lt_of_lt_of_le h4 hb.size, fun j hj => (hb.cell (p := ⟨b, off + j, none⟩) h4).trans (h5 j hj)⟩
theorem VC {w : World} {base : Nat} {v : Value} {l : List Nat} (h : BOwn w base v l) : BRd w v l := by
 rcases h.2 with ⟨h1, h2⟩ | ⟨g, cap, cur, q1, q2, q3, q4, q5, q6, q7⟩
 ·exact .inl ⟨h1, List.eq_nil_of_length_eq_zero h2⟩
 ·refine .inr ⟨g, 0, cap, q1, q4, q5, (Array.getElem?_eq_some_iff.1 q3).1, fun j hj => ?_⟩
  have e : cur[j]? = some (.int .u8 (l[j] : Nat)) := by
   have e1 : (l.map fun (b : Nat) => Value.int .u8 (b : Int))[j]? = some (.int .u8 (l[j] : Nat)) := by simp [List.getElem?_eq_getElem hj]
   rw [← e1, ← q7, List.getElem?_take_of_lt (by omega), Array.getElem?_toList]
  rw [Nat.zero_add]
  simp [World.cell?, q3, e]
theorem BRd.form {w : World} {v : Value} {l : List Nat} (h : BRd w v l) : ∃ A cap, v = .slice A l.length cap := by
 rcases h with ⟨rfl, rfl⟩ | ⟨b, off, cap, rfl, -⟩
 ·exact ⟨none, 0, rfl⟩
 ·exact ⟨_, cap, rfl⟩
theorem Yk (l m : List Nat) (hlm : l.length = m.length) (x y : Value) (w : World) (hx : BRd w x l) (hy : BRd w y m) :
  Calls Tryz.prog 161 #[x, y] w fun r w' => r = .returned (.bool (decide (l = m))) ∧ Below w.heap.size w w' := by
 obtain ⟨A, cap, rfl⟩ := hx.form
 obtain ⟨A', cap', rfl⟩ := hy.form
 have hll : l.length ≤ 9223372036854775807 := by
  rcases hx with ⟨-, rfl⟩ | ⟨b, off, cap, -, h1, h2, -⟩
  ·simp
  ·simp only [maxLen] at h2; omega
 have HX := Lib.hid fun W (hW : Below w.heap.size w W) => hx.later hW
 have HY := Lib.hid fun W (hW : Below w.heap.size w W) => hy.later hW
 have HLM := Lib.hid hlm
 rw [← hlm] at HY ⊢
 clear hx hy hlm
 generalize hn : l.length = n at *
 have HN := Lib.hid hn; clear hn
 go_enter Tryz.func161, Tryz.ntmps161
 go_wp2_with fail
 go_loopw [4, 13] (fun r i wr => ∃ (j : Nat), j ≤ n ∧ i = .int .i64 j ∧ r = .bool false ∧ l.take j = m.take j ∧ Below w.heap.size w wr) (fun _ i _ => n - (intOf i).toNat)
 case atStart => exact ⟨0, by omega, rfl, rfl, by simp, Below.refl _ _⟩
 case round =>
  obtain ⟨j, hj, rfl, rfl, hy, hb⟩ := hrel
  have HYT := Lib.hid hy; have HB := Lib.hid hb
  clear hy hb
  by_cases hlt : j < n
  ·have hjl : j < l.length := by have := HN.out; omega
   have hjm : j < m.length := by have := HLM.out; have := HN.out; omega
   obtain ⟨b, off, cp, e1, h2, h3, h4, h5⟩ := (HX.out wr HB.out).resolve_left (fun h => by rw [h.2] at hjl; simp at hjl)
   obtain ⟨b', off', cp', e1', h2', h3', h4', h5'⟩ := (HY.out wr HB.out).resolve_left (fun h => by rw [h.2] at hjm; simp at hjm)
   injection e1 with e1 _ _
   injection e1' with e1' _ _
   subst e1 e1'
   have c1 := h5 j hjl
   have c2 := h5' j hjm
   obtain ⟨a, ha⟩ : ∃ a, a = l[j] := ⟨_, rfl⟩
   obtain ⟨a', ha'⟩ : ∃ a, a = m[j] := ⟨_, rfl⟩
   rw [← ha] at c1
   rw [← ha'] at c2
   have HA := Lib.hid ha; have HA' := Lib.hid ha'
   have HT : Hid (a = a' → l.take (j + 1) = m.take (j + 1)) := Lib.hid fun e => by rw [List.take_succ_eq_append_getElem hjl, List.take_succ_eq_append_getElem hjm, HYT.out, ← HA.out, ← HA'.out, e]
   have HF : Hid (a ≠ a' → decide (l = m) = false) := Lib.hid fun e => decide_eq_false (fun h => e (by rw [HA.out, HA'.out]; simp [h]))
   clear ha ha' h2 h3 h4 h5 h2' h3' h4' h5'
   by_cases haa : a = a'
   ·subst haa
    go_upto_region 6 with fail
    go_quiet (fail)
    go_wp2_with fail
    go_roundw
    case rel => exact ⟨j + 1, by omega, by go_num, rfl, HT.out rfl, Fq HB.out⟩
    case measure => simp [intOf]; omega
   ·have hne : ((a : Int) != (a' : Int)) = true := by simp; omega
    have HNE := Lib.hid haa
    go_upto_region 6 with fail
    go_quiet (fail)
    go_wp2_with fail
    go_ret
    exact ⟨Df (by rw [HF.out HNE.out]), Fq HB.out⟩
  ·have hj' : j = n := by omega
   subst hj'
   go_wp2_with fail
   go_ret
   have he : l = m := by
    have := HYT.out
    rw [List.take_of_length_le (by have := HN.out; omega), List.take_of_length_le (by have := HN.out; have := HLM.out; omega)] at this
    exact this
   exact ⟨Df (by rw [decide_eq_true he]), HB.out⟩
theorem Ud (l m : List Nat) (x y : Value) (w : World) (hx : BRd w x l) (hy : BRd w y m) :
  Calls Tryz.prog 161 #[x, y] w fun r w' => r = .returned (.bool (decide (l = m))) ∧ Below w.heap.size w w' := by
 by_cases hlm : l.length = m.length
 ·exact Yk l m hlm x y w hx hy
 ·obtain ⟨A, cap, rfl⟩ := hx.form
  obtain ⟨A', cap', rfl⟩ := hy.form
  have hd : decide (l = m) = false := decide_eq_false (fun h => hlm (by rw [h]))
  rw [hd]
  generalize l.length = n at *
  generalize m.length = k at *
  have hne : ((n : Int) != (k : Int)) = true := by simp; omega
  clear hx hy hd
  go_enter Tryz.func161, Tryz.ntmps161
  go_wp2_with fail
  go_ret
  exact ⟨rfl, Below.refl _ _⟩
def e5 : EV := ⟨5, 5, 0, 0, ⟨#[]⟩, ⟨#[]⟩, zeroT⟩
theorem So : zeroT.valid 8 = true := by unfold zeroT; rw [Vt.GE]; simp; decide
end Cn
namespace Rd
open _root_.Go.Proofs.YtfmnacebgplpcaaGreat.Nm (Ds Df)
open Vt (Da)
open Bt (BOwn BIn bv FX)
open Cn (BRd VC)
open Cm (OnlyAt)
theorem brd_in {w : World} {v : Value} {l : List Nat} (h : BRd w v l) : BIn w v l := by
 rcases h with h | ⟨b, off, cap, h1, h2, h3, h4, h5⟩
 ·exact .inl h
 ·refine .inr ⟨⟨b, off, none⟩, cap, h1, h2, h3, h4, fun j u hu => ?_⟩
  rw [List.getElem?_map] at hu
  obtain ⟨x, hx, rfl⟩ := Option.map_eq_some_iff.1 hu
  obtain ⟨hj, rfl⟩ := List.getElem?_eq_some_iff.1 hx
  rw [show (⟨b, off, none⟩ : Addr).add j = ⟨b, off + j, none⟩ from by by_cases h : j = 0 <;> simp [Addr.add, h]]
  exact h5 j hj
def Far (v : Value) (g : Nat) : Prop := ∀ k, v.ownBlock = some k → k < g
structure RAt (w : World) (g : Nat) (v : Value) (l : List Nat) (bad : Bool) : Prop where
 blk : w.heap[g]? = some (.cells #[v, .bool bad] 188 (0, 0))
 rd : BRd w v l
 far : Far v g
theorem RAt.cells {w : World} {g : Nat} {v : Value} {l : List Nat} {bad : Bool} (h : RAt w g v l bad) : w.cell? ⟨g, 0, none⟩ = some v ∧ w.cell? ⟨g, 1, none⟩ = some (.bool bad) ∧ (∀ o, w.frozen? ⟨g, o, none⟩ = false) ∧ g < w.heap.size := by
 have h1 := h.blk
 exact ⟨by simp [World.cell?, h1], by simp [World.cell?, h1], fun o => by simp [World.frozen?, h1], (Array.getElem?_eq_some_iff.1 h1).1⟩
theorem brd_keep {w w' : World} {v : Value} {l : List Nat} (h : BRd w v l) (hz : w.heap.size ≤ w'.heap.size) (hk : ∀ k, v.ownBlock = some k → w'.heap[k]? = w.heap[k]?) : BRd w' v l := by
 rcases h with h | ⟨b, off, cap, rfl, h2, h3, h4, h5⟩
 ·exact .inl h
 ·exact .inr ⟨b, off, cap, rfl, h2, h3, Nat.lt_of_lt_of_le h4 hz, fun j hj => (World.cell?_of_block (a := ⟨b, off + j, none⟩) (hk b (Bt.FD _ _ _))).trans (h5 j hj)⟩
theorem RAt.later {w w' : World} {g : Nat} {v : Value} {l : List Nat} {bad : Bool} (h : RAt w g v l bad) (hb : Below w.heap.size w w') : RAt w' g v l bad :=
 ⟨(hb.block g h.cells.2.2.2).trans h.blk, h.rd.later hb, h.far⟩
theorem Sl {w : World} {g o : Nat} {v x : Value} {l : List Nat} (h : BRd w v l) (hf : Far v g) : BRd (w.setCell ⟨g, o, none⟩ x) v l :=
 brd_keep h (by simp [World.setCell]) fun k hk => Below.heap_setCell w ⟨g, o, none⟩ x k (by simpa using Nat.ne_of_lt (hf k hk))
theorem RAt.setBad {w : World} {g : Nat} {v : Value} {l : List Nat} {bad : Bool} (h : RAt w g v l bad) (b : Bool) : RAt (w.setCell ⟨g, 1, none⟩ (.bool b)) g v l b :=
 ⟨by have h1 := h.blk; simp [World.setCell, Array.getElem?_modify, h1], Sl h.rd h.far, h.far⟩
theorem RAt.setB {w : World} {g : Nat} {v v' : Value} {l l' : List Nat} {bad : Bool} (h : RAt w g v l bad) (h' : BRd w v' l') (hf : Far v' g) : RAt (w.setCell ⟨g, 0, none⟩ v') g v' l' bad :=
 ⟨by have h1 := h.blk; simp [World.setCell, Array.getElem?_modify, h1], Sl h' hf, hf⟩
theorem Uc {w : World} {b off n cap : Nat} {l : List Nat} (h : BRd w (.slice (some ⟨b, off, none⟩) l.length cap) l) (hn : n ≤ l.length) : BRd w (.slice (some ⟨b, off, none⟩) n cap) (l.take n) := by
 rcases h with ⟨h, -⟩ | ⟨b', off', cap', h1, h2, h3, h4, h5⟩
 ·cases h
 ·injection h1 with h1 _ h1c
  injection h1 with h1
  injection h1 with h1a h1b
  subst h1a h1b h1c
  refine .inr ⟨b, off, cap, by rw [List.length_take, Nat.min_eq_left hn], by rw [List.length_take, Nat.min_eq_left hn]; omega, h3, h4, fun j hj => ?_⟩
  rw [List.length_take, Nat.min_eq_left hn] at hj
  rw [h5 j (by omega), List.getElem_take]
theorem brd_drop {w : World} {b off n cap : Nat} {l : List Nat} (h : BRd w (.slice (some ⟨b, off, none⟩) l.length cap) l) (hn : n ≤ l.length) : BRd w (.slice (some ⟨b, off + n, none⟩) (l.length - n) (cap - n)) (l.drop n) := by
 rcases h with ⟨h, -⟩ | ⟨b', off', cap', h1, h2, h3, h4, h5⟩
 ·cases h
 ·injection h1 with h1 _ h1c
  injection h1 with h1
  injection h1 with h1a h1b
  subst h1a h1b h1c
  refine .inr ⟨b, off + n, cap - n, by rw [List.length_drop], by rw [List.length_drop]; omega, by omega, h4, fun j hj => ?_⟩
  rw [List.length_drop] at hj
  rw [Nat.add_assoc, h5 (n + j) (by omega), List.getElem_drop]
theorem fail_any (g : Nat) (v : Value) (l : List Nat) (bad : Bool) (w : World) (h : RAt w g v l bad) :
  Calls Tryz.prog 125 #[.pointer (some ⟨g, 0, none⟩)] w fun r w' => r = .returned (.tuple #[]) ∧ RAt w' g v l true ∧ OnlyAt w w' g none := by
 obtain ⟨c0, c1, c2, c3⟩ := h.cells
 have f1 := c2 1
 have HR := Lib.hid (h.setBad true)
 have HO := Lib.hid ((OnlyAt.of_below (Below.refl w.heap.size w) : OnlyAt w w g none).set 1 (.bool true))
 clear h c2
 go_enter Tryz.func125, Tryz.ntmps125
 go_wp2_with fail
 exact bodyPost_end (results_none rfl _ _ _) rfl ⟨rfl, HR.out, HO.out⟩
def Cut (w : World) (g : Nat) (l : List Nat) (n : Nat) (r : Ending) (w' : World) : Prop := ∃ v' x, r = .returned x ∧ BRd w' x (l.take n) ∧ Far x g ∧ RAt w' g v' (l.drop n) false ∧ OnlyAt w w' g none
theorem M150 (h : p := by
 go_enter Tryz.func126, Tryz.ntmps126
 go_wp2_with fail
 go_ret
 exact ⟨_, _, rfl, HT.out, HFA.out, HR2.out, HO.out _⟩) : p := h
theorem cut_ok (g : Nat) (v : Value) (l : List Nat) (n : Nat) (hn : n ≤ l.length) (w : World) (h : RAt w g v l false) :
  Calls Tryz.prog 126 #[.pointer (some ⟨g, 0, none⟩), .int .i64 n] w (Cut w g l n) := by
 obtain ⟨c0, c1, c2, c3⟩ := h.cells
 have HR := Lib.hid h
 have f0 := c2 0
 have HO := Lib.hid fun x => (OnlyAt.of_below (Below.refl w.heap.size w) : OnlyAt w w g none).set 0 x
 have k1 : decide ((n : Int) < 0) = false := decide_eq_false (by omega)
 have k2 : decide ((n : Int) > (l.length : Int)) = false := decide_eq_false (by omega)
 have k3 : decide ((l.length : Int) < (n : Int)) = false := decide_eq_false (by omega)
 rcases h.rd with ⟨hv, hl⟩ | ⟨b, off, cap, hv, h2, h3, h4, h5⟩
 ·have hn0 : n = 0 := by rw [hl] at hn; simpa using hn
  rw [hv] at c0
  have HV := Lib.hid hv; have HL := Lib.hid hl
  subst hn0
  simp only [hl, List.length_nil] at k2 k3
  have HR2 : Hid (RAt (w.setCell ⟨g, 0, none⟩ (.slice none 0 0)) g (.slice none 0 0) (l.drop 0) false) := Lib.hid (h.setB (.inl ⟨rfl, by rw [hl]; rfl⟩) (fun k hk => by cases hk))
  clear h c2 hv hl
  go_enter Tryz.func126, Tryz.ntmps126
  go_wp2_with fail
  go_ret
  exact ⟨_, _, rfl, .inl ⟨rfl, by rw [HL.out]; rfl⟩, fun k hk => (by cases hk), HR2.out, HO.out _⟩
 ·rw [hv] at c0
  simp only [maxLen] at h3
  have hrd := h.rd
  rw [hv] at hrd
  have hbg : b < g := h.far b (by rw [hv]; exact Bt.FD _ _ _)
  have hfar : ∀ (o m c : Nat), Far (.slice (some ⟨b, o, none⟩) m c) g := fun o m c k hk => by rw [Bt.FD] at hk; cases hk; exact hbg
  by_cases hcn : cap = n
  ·have hln : l.length = n := by omega
   have hd0 : BRd w (.slice (some ⟨b, off, none⟩) 0 0) (l.drop n) := .inr ⟨b, off, 0, by rw [List.length_drop, hln, Nat.sub_self], by rw [List.length_drop]; omega, Nat.zero_le _, h4, fun j hj => by rw [List.length_drop] at hj; omega⟩
   have HR2 := Lib.hid (h.setB hd0 (hfar _ _ _))
   have HT := Lib.hid (Sl (g := g) (o := 0) (x := .slice (some ⟨b, off, none⟩) 0 0) (Uc hrd hn) (hfar _ _ _))
   have HFA := Lib.hid (hfar off n cap)
   clear h c2 hv h5 hrd hd0 hfar hbg
   subst hcn
   exact M150
  ·have HR2 := Lib.hid (h.setB (brd_drop hrd hn) (hfar _ _ _))
   have HT := Lib.hid (Sl (g := g) (o := 0) (x := .slice (some ⟨b, off + n, none⟩) (l.length - n) (cap - n)) (Uc hrd hn) (hfar _ _ _))
   have HFA := Lib.hid (hfar off n cap)
   clear h c2 hv h5 hrd hfar hbg
   exact M150
theorem OW (v : Value) (l : List Nat) (hl : l.length ≤ 17592186044416) (w : World) (h : BRd w v l) :
  Calls Tryz.prog 36 #[v] w fun r w' => ∃ x, r = .returned x ∧ BOwn w' w.heap.size x l ∧ Below w.heap.size w w' := by
 rcases h with ⟨rfl, rfl⟩ | ⟨b, off, cap, rfl, h2, h3, h4, h5⟩
 ·have hnil := fun w => Lib.run_eql_slice_nil (P := Tryz.prog) w 40 5 none 0 0 0 0 Tryz.underlying40
  go_enter Tryz.func36, Tryz.ntmps36
  go_wp2_with fail
  go_ret
  exact ⟨_, rfl, ⟨rfl, .inl ⟨rfl, rfl⟩⟩, Below.refl _ _⟩
 ·have hin : BIn w (.slice (some ⟨b, off, none⟩) l.length cap) l := brd_in (.inr ⟨b, off, cap, rfl, h2, h3, h4, h5⟩)
  obtain ⟨W4, hW4⟩ : ∃ W4, W4 = w.alloc (.cells #[] 5) := ⟨_, rfl⟩
  have hb4 : Below w.heap.size w W4 := by rw [hW4]; exact (Below.refl _ _).alloc (Nat.le_refl _) _
  have hblk : W4.heap[w.heap.size]? = some (.cells #[] 5 (0, 0)) := by rw [hW4]; exact heap_alloc_new w _
  have HO4 : Hid (BOwn W4 w.heap.size (.slice (some ⟨w.heap.size, 0, none⟩) 0 0) []) := Lib.hid ⟨rfl, .inr ⟨w.heap.size, 0, #[], rfl, Nat.le_refl _, hblk, by simp, by simp only [maxLen]; omega, rfl, rfl⟩⟩
  have HI4 := Lib.hid (hin.later hb4)
  have HB4 := Lib.hid hb4
  replace hW4 := Lib.hid hW4
  clear hin hb4 hblk h5
  generalize hn : l.length = n at *
  have HN := Lib.hid hn; clear hn
  have hnil := fun w => Lib.run_eql_slice_nil (P := Tryz.prog) w 40 5 (some ⟨b, off, none⟩) n cap 0 0 Tryz.underlying40
  go_enter Tryz.func36, Tryz.ntmps36
  go_wp2_with (at_builtin; rw [← hW4.out]; refine Bt.Dd _ rfl _ _ rfl w.heap.size _ _ [] l rfl rfl HO4.out HI4.out (by simp only [List.length_nil]; have := HN.out; omega) HB4.out.size ?_; intro v5 w5 hown5 hg5 hb5; have HO5 := Lib.hid hown5; have HB5 := Lib.hid (HB4.out.trans hb5); clear hown5 hg5 hb5)
  go_ret
  exact ⟨_, rfl, by simpa using HO5.out, HB5.out⟩
open Ev (Dy tk ap rd1 rd2 Dj)
open Bt (Db Fdz)
open Cn (Ud)
def Byt (l : List Nat) : Prop := ∀ b ∈ l, b < 256
def Ou (w : World) (l : List Nat) (bad : Bool) (r : Ending) (w' : World) : Prop := r = .returned (match (if bad then none else num l) with | some (x, n) => .tuple #[.int .u64 x, .int .i64 n, .bool true] | none => .tuple #[.int .u64 0, .int .i64 0, .bool false]) ∧ Below w.heap.size w w'
theorem and_127 : ∀ r : Fin 256, bits BinOp.and IntKind.u8 (r.val : Int) 127 = ((r.val % 128 : Nat) : Int) := by decide +kernel
theorem JS (X c j : Nat) (hX : X < 18446744073709551616) : bits BinOp.or IntKind.u64 (X : Int) (IntKind.u64.wrap ((c : Int) % 128 * 2 ^ (7 * j))) = ((X ||| (c % 128 * 128 ^ j) % 18446744073709551616 : Nat) : Int) := by
 have e1 : (2 : Int) ^ (7 * j) = ((128 ^ j : Nat) : Int) := by
  rw [show ((128 : Nat) ^ j) = 2 ^ (7 * j) from by rw [show (128 : Nat) = 2 ^ 7 from rfl, ← Nat.pow_mul]]
  simp
 rw [e1, IntKind.wrap_u64, show (c : Int) % 128 * ((128 ^ j : Nat) : Int) = ((c % 128 * 128 ^ j : Nat) : Int) from by rw [Int.natCast_mul]; rfl]
 generalize c % 128 * 128 ^ j = y
 rw [show ((y : Nat) : Int) % 18446744073709551616 = ((y % 18446744073709551616 : Nat) : Int) from by omega]
 exact bits_or_u64_nat X _ hX (Nat.mod_lt _ (by omega))
theorem SQ (X c j : Nat) (hX : X < 18446744073709551616) : X ||| (c % 128 * 128 ^ j) % 18446744073709551616 < 18446744073709551616 := Nat.or_lt_two_pow (n := 64) hX (Nat.mod_lt _ (by omega))
theorem UV {l : List Nat} {j : Nat} (h : j < l.length) : l.drop j = l[j] :: l.drop (j + 1) := List.drop_eq_getElem_cons h
theorem Jd {w w' : World} {l : List Nat} {x n : Nat} (h : num l = some (x, n)) (hb : Below w.heap.size w w') : Ou w l false (.returned (.tuple #[.int .u64 x, .int .i64 n, .bool true])) w' := by
 unfold Ou; rw [if_neg (by simp), h]; exact ⟨rfl, hb⟩
theorem UJ {w w' : World} {l : List Nat} (h : num l = none) (hb : Below w.heap.size w w') : Ou w l false (.returned (.tuple #[.int .u64 0, .int .i64 0, .bool false])) w' := by
 unfold Ou; rw [if_neg (by simp), h]; exact ⟨rfl, hb⟩
theorem peek_bad (g : Nat) (v : Value) (l : List Nat) (w : World) (h : RAt w g v l true) :
  Calls Tryz.prog 124 #[.pointer (some ⟨g, 0, none⟩)] w (Ou w l true) := by
 obtain ⟨c0, c1, c2, c3⟩ := h.cells
 clear h c2
 go_enter Tryz.func124, Tryz.ntmps124
 go_wp2_with fail
 exact bodyPost_ret (v := .tuple #[.int .u64 0, .int .i64 0, .bool false]) (by simp [results, Tryz.results124, go_sem]) rfl ⟨rfl, Below.refl _ _⟩
theorem Q349.Y346 (h : p := by
 refine tk 10 rfl ?_
 refine tk 11 rfl ?_
 refine tk 12 rfl ?_
 refine tk 13 rfl ?_
 refine tk 14 rfl ?_
 refine wpAnyH_done (by kernel_rfl) ?_ _
 refine NoPanic.normal ?_
 go_wp2_with fail
 exact bodyPost_ret (v := .tuple #[.int .u64 0, .int .i64 0, .bool false]) (by simp [results, Tryz.results124, go_sem]) rfl (UJ HNO.out (Da HB.out))) : p := h
theorem M52 (h : p := by
 open Q349 in exact M346) : p := h
theorem M125 (h : p := by
 exact KS.out _ (HB.out.trans ((Da (Below.refl wr.heap.size wr)).mono HB.out.size))) : p := h
theorem Q444.Y443 (h : p := by
 refine wpAnyH_done (by kernel_rfl) ?_ _
 refine NoPanic.normal ?_
 go_wp2_with fail
 go_loopw [2, 3, 30] (fun xv nv iv wr => ∃ (j X : Nat), j ≤ k ∧ iv = .int .i64 j ∧ nv = .int .i64 0 ∧ xv = .int .u64 X ∧ X < 18446744073709551616 ∧ pk 10 0 0 l = pk (10 - j) j X (l.drop j) ∧ Below w.heap.size w wr) (fun _ _ i _ => k - (intOf i).toNat)
 case atStart => exact ⟨0, 0, by omega, rfl, rfl, rfl, by omega, rfl, Da (Below.refl _ _)⟩
 case round =>
  obtain ⟨j, X, hj, rfl, rfl, rfl, hX, hpk, hbw⟩ := hrel
  have HB := Lib.hid hbw
  have HPK := Lib.hid hpk
  clear hpk hbw
  by_cases hlt : j < k
  ·have hjl : j < l.length := by omega
   obtain ⟨b', off', cap', e1, -, -, e4, e5⟩ := (HR.out.rd.later HB.out).resolve_left HNE.out
   injection e1 with e1 _ e2
   injection e1 with e1
   injection e1 with e1 e3
   subst e1 e3 e2
   have c1 := e5 j hjl
   obtain ⟨c, hc⟩ : ∃ c, c = l[j] := ⟨_, rfl⟩
   rw [← hc] at c1
   have hcb : c < 256 := by rw [hc]; exact hb _ (List.getElem_mem hjl)
   have HC := Lib.hid hc
   clear hc e5
   have hand : bits BinOp.and IntKind.u8 (c : Int) 127 = ((c % 128 : Nat) : Int) := and_127 ⟨c, hcb⟩
   obtain ⟨d, hd⟩ : ∃ d, d = c % 128 := ⟨_, rfl⟩
   rw [← hd] at hand
   by_cases hc128 : c < 128
   ·go_wp2_with fail
    rw [JS X c j hX]
    obtain ⟨Y, hY⟩ : ∃ Y, Y = X ||| (c % 128 * 128 ^ j) % 18446744073709551616 := ⟨_, rfl⟩
    have hYl : Y < 18446744073709551616 := by rw [hY]; exact SQ X c j hX
    rw [← hY]
    have hfin : pk 10 0 0 l = (Y, j + 1) := by
     rw [HPK.out, UV hjl, show 10 - j = (10 - j - 1) + 1 by omega, ← HC.out, pk, if_pos hc128, hY]
    have HFIN : Hid (num l = if Db 10 Y ≠ l.take (j + 1) then none else some (Y, j + 1)) := Lib.hid (by
     rw [Xx hb, hfin]
     by_cases q : Db 10 Y = l.take (j + 1)
     ·rw [if_neg (by simp [q]), if_neg (by simp [q])]
     ·rw [if_pos (.inr q), if_pos q])
    have hj1 : ((j : Int) + 1 == 0) = false := by simp; omega
    have hj2 : j + 1 ≤ cap := by omega
    have hj3 : (0 : Int) ≤ (j : Int) + 1 := by omega
    have hj4 : (j : Int) + 1 ≤ (cap : Int) := by omega
    have HU := Lib.hid fun W => Fdz Y hYl W
    have HT : Hid (∀ W, Below wr.heap.size wr W → BRd W (.slice (some ⟨b, off, none⟩) (j + 1) cap) (l.take (j + 1))) := Lib.hid fun W hW => Uc ((HR.out.rd.later HB.out).later hW) (by omega)
    clear hfin hY hand hd c1
    go_upto_region 10 with fail
    refine wp_region_noPanic ?_
    refine wp_region_held_drew (S := (fun W' : World => W'.cell? ⟨g, 0, none⟩ = some (.slice (some ⟨b, off, none⟩) l.length cap) ∧ W'.cell? ⟨g, 1, none⟩ = some (.bool false))) (by kernel_rfl) ?_ (fun hHeld => ?_)
    ·exact M125
    refine tk 0 rfl ?_
    refine tk 1 rfl ?_
    refine tk 2 rfl ?_
    refine tk 3 rfl ?_
    refine tk 5 rfl ?_
    refine tk 6 rfl ?_
    refine tk 7 rfl ?_
    refine tk 8 rfl ?_
    refine tk 9 rfl ?_
    refine tk 10 rfl ?_
    refine tk 11 rfl ?_
    refine rd1 4 rfl fun K hK => ?_
    go_simp
    refine (HU.out _).mono ?_
    rintro e w2 ⟨v2, rfl, ho, hb2⟩
    have HB2 : Hid (Below wr.heap.size wr w2) := Lib.hid ((Da (Below.refl _ _)).trans hb2)
    have HO := Lib.hid (VC ho)
    clear ho hb2
    go_wp2_with fail
    refine hK.out _ _ (KS.out _ (HB.out.trans (HB2.out.mono HB.out.size))) (fun hHeld2 => ?_)
    clear hK K hHeld
    try simp only [ap]
    refine rd1 12 rfl fun K hK => ?_
    go_simp
    refine (Ud (Db 10 Y) (l.take (j + 1)) v2 _ _ HO.out (HT.out _ HB2.out)).mono ?_
    rintro e w3 ⟨rfl, hb2⟩
    have HB3 : Hid (Below wr.heap.size wr w3) := Lib.hid (HB2.out.trans (hb2.mono HB2.out.size))
    clear hb2
    go_wp2_with fail
    refine hK.out _ _ (KS.out _ (HB.out.trans (HB3.out.mono HB.out.size))) (fun hHeld3 => ?_)
    clear hK K hHeld2
    try simp only [ap]
    have HBF := Lib.hid (HB.out.trans (HB3.out.mono HB.out.size))
    obtain ⟨q, hq⟩ : ∃ q, q = decide (Db 10 Y = l.take (j + 1)) := ⟨_, rfl⟩
    rw [← hq]
    have HQ := Lib.hid hq
    clear hq
    cases q with
    | true =>
     refine tk 13 rfl ?_
     refine tk 14 rfl ?_
     refine wpAnyH_done (by kernel_rfl) ?_ _
     refine NoPanic.normal ?_
     go_wp2_with fail
     have hn : num l = some (Y, j + 1) := by rw [HFIN.out, if_neg]; exact fun h => h (of_decide_eq_true HQ.out.symm)
     exact bodyPost_ret (v := .tuple #[.int .u64 Y, .int .i64 (j + 1 : Nat), .bool true]) (by simp [results, Tryz.results124, go_sem]) rfl (Jd hn HBF.out)
    | false =>
     refine tk 13 rfl ?_
     refine tk 14 rfl ?_
     refine wpAnyH_done (by kernel_rfl) ?_ _
     refine NoPanic.normal ?_
     go_wp2_with fail
     have hn : num l = none := by rw [HFIN.out, if_pos (of_decide_eq_false HQ.out.symm)]
     exact bodyPost_ret (v := .tuple #[.int .u64 0, .int .i64 0, .bool false]) (by simp [results, Tryz.results124, go_sem]) rfl (UJ hn HBF.out)
   ·go_wp2_with fail
    rw [JS X c j hX]
    go_roundw
    case rel => exact ⟨j + 1, _, by omega, by go_num, rfl, rfl, SQ X c j hX, by rw [HPK.out, UV hjl, show 10 - j = (10 - (j + 1)) + 1 by omega, ← HC.out, pk, if_neg hc128], HB.out⟩
    case measure => simp [intOf]; omega
  ·have hjk : j = k := by omega
   have hfin : pk 10 0 0 l = (X, 0) := by
    rw [HPK.out]
    by_cases h10 : j = 10
    ·rw [h10]; rfl
    ·rw [List.drop_eq_nil_of_le (by have := HK.out; omega), show 10 - j = (10 - j - 1) + 1 by omega]; rfl
   have HNO : Hid (num l = none) := Lib.hid (by rw [Xx hb, hfin, if_pos (.inl rfl)])
   subst hjk
   clear hfin
   go_upto_region 10 with fail
   refine wp_region_noPanic ?_
   refine wp_region_held_drew (S := (fun W' : World => W'.cell? ⟨g, 0, none⟩ = some (.slice (some ⟨b, off, none⟩) l.length cap) ∧ W'.cell? ⟨g, 1, none⟩ = some (.bool false))) (by kernel_rfl) ?_ (fun hHeld => ?_)
   ·exact M125
   exact M52) : p := h
theorem KW (g : Nat) (v : Value) (l : List Nat) (hb : Byt l) (w : World) (h : RAt w g v l false) (hne : ¬ (v = .slice none 0 0 ∧ l = [])) :
  Calls Tryz.prog 124 #[.pointer (some ⟨g, 0, none⟩)] w (Ou w l false) := by
 obtain ⟨b, off, cap, hv, h2, h3, h4, h5⟩ := h.rd.resolve_left hne
 subst hv
 simp only [maxLen] at h3
 have HNE := Lib.hid hne
 clear h5 hne
 have HR := Lib.hid h
 obtain ⟨c0, c1, c2, c3⟩ := h.cells
 have KS : Hid (∀ W' : World, Below w.heap.size w W' → (W'.cell? ⟨g, 0, none⟩ = some (.slice (some ⟨b, off, none⟩) l.length cap) ∧ W'.cell? ⟨g, 1, none⟩ = some (.bool false))) := Lib.hid fun W' hW => by
  obtain ⟨c0, c1, -, -⟩ := (HR.out.later hW).cells
  exact ⟨c0, c1⟩
 clear h c2
 go_enter Tryz.func124, Tryz.ntmps124
 obtain ⟨k, hk⟩ : ∃ k, k = min l.length 10 := ⟨_, rfl⟩
 have hmin : (if (10 : Int) < (l.length : Int) then (10 : Int) else (l.length : Int)) = (k : Int) := by split <;> omega
 have hk2 : k ≤ cap := by omega
 have hk3 : k ≤ l.length := by omega
 have HK := Lib.hid hk
 clear hk
 go_upto_region 3 with fail
 clear c0 c1
 refine wp_region_noPanic ?_
 refine wp_region_held_drew (S := (fun W' : World => W'.cell? ⟨g, 0, none⟩ = some (.slice (some ⟨b, off, none⟩) l.length cap) ∧ W'.cell? ⟨g, 1, none⟩ = some (.bool false))) (by kernel_rfl) ?_ (fun hHeld => ?_)
 ·exact KS.out _ (Da (Below.refl _ _))
 refine tk 0 rfl ?_
 refine tk 1 rfl ?_
 refine tk 2 rfl ?_
 refine tk 3 rfl ?_
 refine tk 4 rfl ?_
 refine tk 5 rfl ?_
 open Q444 in exact M443
theorem Q446.Y443 (h : p := by
 refine wpAnyH_done (by kernel_rfl) ?_ _
 refine NoPanic.normal ?_
 go_wp2_with fail
 go_loopw [2, 3, 30] (fun xv nv iv wr => iv = .int .i64 0 ∧ nv = .int .i64 0 ∧ xv = .int .u64 0 ∧ Below w.heap.size w wr) (fun _ _ i _ => 0)
 case atStart => exact ⟨rfl, rfl, rfl, Da (Below.refl _ _)⟩
 case round =>
  obtain ⟨rfl, rfl, rfl, hbw⟩ := hrel
  have HB := Lib.hid hbw
  clear hbw
  go_upto_region 10 with fail
  refine wp_region_noPanic ?_
  refine wp_region_held_drew (S := (fun W' : World => W'.cell? ⟨g, 0, none⟩ = some (.slice none 0 0) ∧ W'.cell? ⟨g, 1, none⟩ = some (.bool false))) (by kernel_rfl) ?_ (fun hHeld => ?_)
  ·exact M125
  exact M52) : p := h
theorem peek_nil (g : Nat) (w : World) (h : RAt w g (.slice none 0 0) [] false) :
  Calls Tryz.prog 124 #[.pointer (some ⟨g, 0, none⟩)] w (Ou w [] false) := by
 have HR := Lib.hid h
 obtain ⟨c0, c1, c2, c3⟩ := h.cells
 have KS : Hid (∀ W' : World, Below w.heap.size w W' → (W'.cell? ⟨g, 0, none⟩ = some (.slice none 0 0) ∧ W'.cell? ⟨g, 1, none⟩ = some (.bool false))) := Lib.hid fun W' hW => by
  obtain ⟨c0, c1, -, -⟩ := (HR.out.later hW).cells
  exact ⟨c0, c1⟩
 have HNO : Hid (num [] = none) := Lib.hid rfl
 clear h c2
 go_enter Tryz.func124, Tryz.ntmps124
 go_upto_region 3 with fail
 clear c0 c1
 refine wp_region_noPanic ?_
 refine wp_region_held_drew (S := (fun W' : World => W'.cell? ⟨g, 0, none⟩ = some (.slice none 0 0) ∧ W'.cell? ⟨g, 1, none⟩ = some (.bool false))) (by kernel_rfl) ?_ (fun hHeld => ?_)
 ·exact KS.out _ (Da (Below.refl _ _))
 refine tk 0 rfl ?_
 refine tk 1 rfl ?_
 refine tk 2 rfl ?_
 refine tk 3 rfl ?_
 refine tk 4 rfl ?_
 refine tk 5 rfl ?_
 open Q446 in exact M443
theorem peek_any (g : Nat) (v : Value) (l : List Nat) (bad : Bool) (hb : Byt l) (w : World) (h : RAt w g v l bad) :
  Calls Tryz.prog 124 #[.pointer (some ⟨g, 0, none⟩)] w (Ou w l bad) := by
 cases bad with
 | true => exact peek_bad g v l w h
 | false =>
  by_cases hne : v = .slice none 0 0 ∧ l = []
  ·obtain ⟨rfl, rfl⟩ := hne
   exact peek_nil g w h
  ·exact KW g v l hb w h hne
end Rd
namespace Bt
open _root_.Go.Proofs.YtfmnacebgplpcaaGreat.Nm (Ds Df)
open Vt (VT Rep BoxAt Da)
open Ev (Dy tk ap rd1 rd2 Dj)
theorem BIn.toText {w : World} {v : Value} {l : List Nat} (h : BIn w v l) (hb : ∀ b ∈ l, b < 256) : (convert 40 9 v).run Tryz.prog w = .ok (.string ⟨(l.map UInt8.ofNat).toArray⟩) w := by
 rcases h with ⟨rfl, rfl⟩ | ⟨ad, cap, rfl, h2, h3, h4, h5⟩
 ·exact Lib.run_convert_nil_bytes w _ _ 5 0 Tryz.underlying40 Tryz.underlying5 Tryz.underlying9
 ·have := run_convert_bytes_back (P := Tryz.prog) w 40 9 5 ad cap (l.map UInt8.ofNat) Tryz.underlying40 Tryz.underlying5 Tryz.underlying9 (fun j hj => by
   have hj' : j < l.length := by simpa using hj
   have h6 := h5 j (bv l[j]) (by simp [hj'])
   rw [h6]
   have h7 : l[j] < 256 := hb _ (List.getElem_mem hj')
   simp only [bv, List.getElem_map, UInt8.toNat_ofNat']
   rw [Nat.mod_eq_of_lt (by omega)])
  rw [List.length_map] at this
  exact this
end Bt
namespace Rd
open _root_.Go.Proofs.YtfmnacebgplpcaaGreat.Nm (Ds Df)
open Vt (Da)
open Bt (BOwn BIn bv Db sb)
open Cn (BRd VC)
open Cm (OnlyAt)
abbrev St := List Nat × Bool
def nxt (s : St) : Option (Nat × Nat) := if s.2 then none else num s.1
def Gh (s : St) : St × Nat := match nxt s with | some (x, n) => ((s.1.drop n, false), x) | none => ((s.1, true), 0)
def rTake (s : St) (n : Nat) : St × List Nat := if s.2 = false ∧ n ≤ s.1.length then ((s.1.drop n, false), s.1.take n) else ((s.1, true), [])
def Ja (s : St) : St × List Nat := match nxt s with
 | some (x, n) => if x ≤ s.1.length - n then ((s.1.drop (n + x), false), (s.1.drop n).take x) else ((s.1, true), [])
 | none => ((s.1, true), [])
def strOf (l : List Nat) : ByteArray := ⟨(l.map UInt8.ofNat).toArray⟩
def RS (w : World) (g : Nat) (s : St) : Prop := (∃ v, RAt w g v s.1 s.2) ∧ Byt s.1 ∧ s.1.length ≤ 1099511627776
theorem RS.later {w w' : World} {g : Nat} {s : St} (h : RS w g s) (hb : Below w.heap.size w w') : RS w' g s := ⟨h.1.imp fun v hv => hv.later hb, h.2⟩
theorem RS.lt {w : World} {g : Nat} {s : St} (h : RS w g s) : g < w.heap.size := by obtain ⟨⟨v, hv⟩, -⟩ := h; exact hv.cells.2.2.2
theorem byt_drop {l : List Nat} (h : Byt l) (n : Nat) : Byt (l.drop n) := fun b hb => h b (List.mem_of_mem_drop hb)
theorem nxt_le {s : St} (hb : Byt s.1) {x n : Nat} (h : nxt s = some (x, n)) : s.2 = false ∧ n ≤ s.1.length ∧ x < 18446744073709551616 := by
 unfold nxt at h
 cases hs : s.2 with
 | true => rw [hs] at h; cases h
 | false =>
  rw [hs, if_neg (by simp)] at h
  obtain ⟨h1, -, -, h4, -⟩ := XF hb h
  exact ⟨rfl, h4, h1⟩
theorem KV {s : St} (hb : Byt s.1) (hl : s.1.length ≤ 1099511627776) : Byt (Gh s).1.1 ∧ (Gh s).1.1.length ≤ 1099511627776 := by
 unfold Gh
 split
 ·exact ⟨byt_drop hb _, by simp only [List.length_drop]; omega⟩
 ·exact ⟨hb, hl⟩
theorem Fdz (g : Nat) (s : St) (w : World) (h : RS w g s) :
  Calls Tryz.prog 87 #[.pointer (some ⟨g, 0, none⟩)] w fun r w' => r = .returned (.int .u64 (Gh s).2) ∧ RS w' g (Gh s).1 ∧ OnlyAt w w' g none := by
 obtain ⟨⟨v, hr⟩, hb, hl⟩ := h
 obtain ⟨c0, c1, c2, c3⟩ := hr.cells
 have HP := Lib.hid (peek_any g v s.1 s.2 hb w hr)
 have HR := Lib.hid hr
 have HBY := Lib.hid (KV hb hl)
 unfold Ou at HP
 have hx : (if s.2 = true then none else num s.1) = nxt s := rfl
 rw [hx] at HP
 clear c2 hx hr
 cases hn : nxt s with
 | none =>
  have HU : Hid (Gh s = ((s.1, true), 0)) := Lib.hid (by unfold Gh; rw [hn])
  rw [hn] at HP
  have HF := Lib.hid fun W (hW : RAt W g v s.1 s.2) => fail_any g v s.1 s.2 W hW
  rw [HU.out] at HBY ⊢
  clear hn hb hl
  go_enter Tryz.func87, Tryz.ntmps87
  go_wp2_with fail
  refine HP.out.mono ?_
  rintro e w1 ⟨rfl, hb1⟩
  have HB1 := Lib.hid hb1; clear hb1
  go_wp2_with fail
  refine (HF.out _ (HR.out.later HB1.out)).mono ?_
  rintro e w2 ⟨rfl, hr2, ho2⟩
  have HR2 := Lib.hid hr2; have HO2 := Lib.hid ho2; clear hr2 ho2
  go_wp2_with fail
  go_ret
  exact ⟨rfl, ⟨⟨v, HR2.out⟩, HBY.out⟩, (OnlyAt.of_below HB1.out).trans HO2.out⟩
 | some p =>
  obtain ⟨x, n⟩ := p
  obtain ⟨hs2, hnl, hx⟩ := nxt_le hb hn
  have HU : Hid (Gh s = ((s.1.drop n, false), x)) := Lib.hid (by unfold Gh; rw [hn])
  rw [hn] at HP
  have HC := Lib.hid fun W (hW : RAt W g v s.1 false) => cut_ok g v s.1 n hnl W hW
  unfold Cut at HC
  rw [hs2] at HR
  rw [HU.out] at HBY ⊢
  clear hn hb hl hs2
  go_enter Tryz.func87, Tryz.ntmps87
  go_wp2_with fail
  refine HP.out.mono ?_
  rintro e w1 ⟨rfl, hb1⟩
  have HB1 := Lib.hid hb1; clear hb1
  go_wp2_with fail
  refine (HC.out _ (HR.out.later HB1.out)).mono ?_
  rintro e w2 ⟨v', x', rfl, hx', hf', hr2, ho2⟩
  have HR2 := Lib.hid hr2; have HO2 := Lib.hid ho2; clear hr2 ho2 hx' hf'
  go_wp2_with fail
  go_ret
  exact ⟨rfl, ⟨⟨v', HR2.out⟩, HBY.out⟩, (OnlyAt.of_below HB1.out).trans HO2.out⟩
def unzz (x : Nat) : Int := if x % 2 = 0 then ((x / 2 : Nat) : Int) else -((x / 2 : Nat) : Int) - 1
end Rd
end Go.Proofs.YtfmnacebgplpcaaGreat
