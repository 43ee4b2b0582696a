/- event.Bytes of a valid event whose value's bytes are known. -/
import Derived.Test.YtcbddebmmaflgaaGreatDoorMiam
namespace Go.Proofs.YtcbddebmmaflgaaGreatDoor
open Go.RowKit
set_option linter.unusedVariables false
namespace Bt
open _root_.Go.Proofs.YtcbddebmmaflgaaGreatDoor.Nm (ret_int ret_bool)
open Vt (VT Rep BoxAt below_drew)
open Ev (take_drop tk cons_drop EBox six_cells six_row RowAt ix0 ix1 ix2 ix3 ix4 ix5)

/-- Those parts that a kind has, of the first j. -/
def sel (bs : List Bool) (ps : List (List Nat)) (j : Nat) : List Nat := (((bs.zip ps).take j).map (fun p => if p.1 then p.2 else [])).flatten

/-- Six byte slices in a block. -/
def Six (w : World) (b : Nat) (ps : List (List Nat)) : Prop := ∃ v0 v1 v2 v3 v4 v5, w.heap[b]? = some (.cells #[v0, v1, v2, v3, v4, v5] 85 (0, 0)) ∧ BIn w v0 (ps[0]?.getD []) ∧ BIn w v1 (ps[1]?.getD []) ∧ BIn w v2 (ps[2]?.getD []) ∧ BIn w v3 (ps[3]?.getD []) ∧ BIn w v4 (ps[4]?.getD []) ∧ BIn w v5 (ps[5]?.getD [])
theorem Six.later {w w' : World} {b : Nat} {ps : List (List Nat)} (h : Six w b ps) (hb : Below w.heap.size w w') : Six w' b ps := by
  obtain ⟨v0, v1, v2, v3, v4, v5, h1, h2, h3, h4, h5, h6, h7⟩ := h
  exact ⟨v0, v1, v2, v3, v4, v5, (hb.block b (Array.getElem?_eq_some_iff.1 h1).1).trans h1, h2.later hb, h3.later hb, h4.later hb, h5.later hb, h6.later hb, h7.later hb⟩
theorem sel_len : ∀ (bs : List Bool) (ps : List (List Nat)) (j : Nat), (sel bs ps j).length ≤ ps.flatten.length
  | [], _, _ => by simp [sel]
  | _ :: _, [], _ => by simp [sel]
  | _ :: _, _ :: _, 0 => by simp [sel]
  | b :: bs, p :: ps, j + 1 => by have := sel_len bs ps j; simp only [sel] at this ⊢; simp only [List.zip_cons_cons, List.take_succ_cons, List.map_cons, List.flatten_cons, List.length_append]; cases b <;> simp only [Bool.false_eq_true, if_true, if_false, List.length_nil] <;> omega
theorem BIn.far {w : World} {v : Value} {l : List Nat} (h : BIn w v l) {p : Addr} (hp : w.heap.size ≤ p.block) (u : Value) : BIn (w.setCell p u) v l :=
  h.later ((Below.refl _ _).setCell hp u)
theorem ownBlock_slice (ad : Addr) (n c : Nat) : (Value.slice (some ad) n c).ownBlock = some ad.block := by cases ad; rfl
/-- A slice's block is not g. -/
def Apart (v : Value) (g : Nat) : Prop := ∀ k, v.ownBlock = some k → k ≠ g
theorem BIn.apart {w : World} {v : Value} {l : List Nat} (h : BIn w v l) : Apart v w.heap.size := by
  intro k hk
  rcases h with ⟨rfl, -⟩ | ⟨ad, cap, rfl, h2, h3, h4, h5⟩
  · cases hk
  · rw [ownBlock_slice] at hk; cases hk; omega
theorem BIn.six {w : World} {v : Value} {l : List Nat} {g : Nat} (h : BIn w v l) (hd : Apart v g) (a0 a1 a2 a3 a4 a5 : Value) :
    BIn ((((((w.setCell ⟨g, 0, none⟩ a0).setCell ⟨g, 1, none⟩ a1).setCell ⟨g, 2, none⟩ a2).setCell ⟨g, 3, none⟩ a3).setCell ⟨g, 4, none⟩ a4).setCell ⟨g, 5, none⟩ a5) v l := by
  rcases h with h | ⟨ad, cap, rfl, h2, h3, h4, h5⟩
  · exact .inl h
  · have hne : ad.block ≠ g := hd _ (ownBlock_slice ad _ _)
    refine .inr ⟨ad, cap, rfl, h2, h3, by simpa [World.setCell] using h4, fun j u hu => ?_⟩
    have := h5 j u hu
    have hb : (ad.add j).block ≠ g := by rw [block_add]; exact hne
    rw [← this]
    apply World.cell?_of_block
    rw [Below.heap_setCell _ _ _ _ (by simpa using hb), Below.heap_setCell _ _ _ _ (by simpa using hb), Below.heap_setCell _ _ _ _ (by simpa using hb), Below.heap_setCell _ _ _ _ (by simpa using hb), Below.heap_setCell _ _ _ _ (by simpa using hb), Below.heap_setCell _ _ _ _ (by simpa using hb)]
theorem six_ge {B g : Nat} {w w' : World} (h : Below B w w') (hg : B ≤ g) (a b c d e f : Value) :
    Below B w ((((((w'.setCell ⟨g, 0, none⟩ a).setCell ⟨g, 1, none⟩ b).setCell ⟨g, 2, none⟩ c).setCell ⟨g, 3, none⟩ d).setCell ⟨g, 4, none⟩ e).setCell ⟨g, 5, none⟩ f) :=
  (((((h.setCell (p := ⟨g, 0, none⟩) hg _).setCell (p := ⟨g, 1, none⟩) hg _).setCell (p := ⟨g, 2, none⟩) hg _).setCell (p := ⟨g, 3, none⟩) hg _).setCell (p := ⟨g, 4, none⟩) hg _).setCell (p := ⟨g, 5, none⟩) hg _

set_option maxRecDepth 100000 in
set_option maxHeartbeats 1000000 in
theorem ebytes_walk (k id nn at' : Nat) (name text : ByteArray) (hk : k < 1000) (hid : id < 18446744073709551616) (hnn : nn ≤ 2147483647) (hat : at' < 18446744073709551616) (hname : name.size ≤ 1000) (htext : text.size ≤ 1000) (vk vn : Int) (vf : Nat) (vs : ByteArray) (A : Option Addr) (m c : Nat) (nm : ByteArray) (b0 b1 b2 b3 b4 b5 : Bool) (lv : List Nat) (hlv : lv.length ≤ 100000) (w : World)
    (hval : ∀ W, Below w.heap.size w W → Calls Tryz.prog 12 #[.agg #[.int .i64 (k : Nat), .int .u64 (id : Nat), .int .i64 (nn : Nat), .int .u64 (at' : Nat), .string name, .string text, .int .i64 vk, .int .i64 vn, .float .f64 vf, .string vs, .slice A m c]] W fun r w' => r = .returned (.bool true) ∧ Below W.heap.size W w')
    (hof : ∀ W, Calls Tryz.prog 41 #[.int .i64 (k : Nat)] W fun x w' => x = .returned (.tuple #[.agg #[.string nm, .bool b0, .bool b1, .bool b2, .bool b3, .bool b4, .bool b5], .bool true]) ∧ Below W.heap.size W w')
    (hvb : ∀ W, Below w.heap.size w W → Calls Tryz.prog 52 #[.agg #[.int .i64 vk, .int .i64 vn, .float .f64 vf, .string vs, .slice A m c]] W fun e w' => ∃ v, e = .returned (.tuple #[v, .bool true]) ∧ BOwn w' W.heap.size v lv ∧ Below W.heap.size W w') :
    Calls Tryz.prog 14 #[.agg #[.int .i64 (k : Nat), .int .u64 (id : Nat), .int .i64 (nn : Nat), .int .u64 (at' : Nat), .string name, .string text, .int .i64 vk, .int .i64 vn, .float .f64 vf, .string vs, .slice A m c]] w fun e w' => ∃ v, e = .returned (.tuple #[v, .bool true]) ∧ BOwn w' w.heap.size v ([1] ++ ubytes 10 k ++ sel [b0, b1, b2, b3, b4, b5] [ubytes 10 id, ubytes 10 nn, ubytes 10 at', ubytes 10 name.size ++ sb name, ubytes 10 text.size ++ sb text, lv] 6) ∧ Below w.heap.size w w' := by
  obtain ⟨l0, hl0⟩ : ∃ l, l = ubytes 10 id := ⟨_, rfl⟩
  obtain ⟨l1, hl1⟩ : ∃ l, l = ubytes 10 nn := ⟨_, rfl⟩
  obtain ⟨l2, hl2⟩ : ∃ l, l = ubytes 10 at' := ⟨_, rfl⟩
  obtain ⟨l3, hl3⟩ : ∃ l, l = ubytes 10 name.size ++ sb name := ⟨_, rfl⟩
  obtain ⟨l4, hl4⟩ : ∃ l, l = ubytes 10 text.size ++ sb text := ⟨_, rfl⟩
  have ll0 : l0.length ≤ 11 := by rw [hl0]; exact ubytes_len 10 _
  have ll1 : l1.length ≤ 11 := by rw [hl1]; exact ubytes_len 10 _
  have ll2 : l2.length ≤ 11 := by rw [hl2]; exact ubytes_len 10 _
  have ll3 : l3.length ≤ 1011 := by rw [hl3, List.length_append, sb_len]; have := ubytes_len 10 name.size; omega
  have ll4 : l4.length ≤ 1011 := by rw [hl4, List.length_append, sb_len]; have := ubytes_len 10 text.size; omega
  have HUi := Lib.hid fun W => uint_any id hid W
  have HUn := Lib.hid fun W => uint_any nn (by omega) W
  have HUa := Lib.hid fun W => uint_any at' hat W
  have HTn := Lib.hid fun W => btext_any name (by omega) W
  have HTt := Lib.hid fun W => btext_any text (by omega) W
  have HUk := Lib.hid fun W => uint_any k (by omega) W
  obtain ⟨lk, hlk⟩ : ∃ l, l = ubytes 10 k := ⟨_, rfl⟩
  have llk : lk.length ≤ 11 := by rw [hlk]; exact ubytes_len 10 _
  rw [← hlk] at HUk ⊢
  rw [← hl0] at HUi ⊢
  rw [← hl1] at HUn ⊢
  rw [← hl2] at HUa ⊢
  rw [← hl3] at HTn ⊢
  rw [← hl4] at HTt ⊢
  clear hlk hl0 hl1 hl2 hl3 hl4
  obtain ⟨W0, hW0⟩ : ∃ W0, W0 = w.alloc (.cells #[.int .i64 (k : Nat), .int .u64 (id : Nat), .int .i64 (nn : Nat), .int .u64 (at' : Nat), .string name, .string text, .int .i64 vk, .int .i64 vn, .float .f64 vf, .string vs, .slice A m c] 32) := ⟨_, rfl⟩
  have HB0 : Hid (Below w.heap.size w W0) := Lib.hid (by rw [hW0]; exact (Below.refl _ _).alloc (Nat.le_refl _) _)
  have hbx : EBox W0 w.heap.size #[.int .i64 (k : Nat), .int .u64 (id : Nat), .int .i64 (nn : Nat), .int .u64 (at' : Nat), .string name, .string text, .int .i64 vk, .int .i64 vn, .float .f64 vf, .string vs, .slice A m c] := by rw [hW0]; exact heap_alloc_new w _
  have hzz : w.heap.size < W0.heap.size := by rw [hW0]; simp
  have HX : Hid (∀ W, Below W0.heap.size W0 W → EBox W w.heap.size #[.int .i64 (k : Nat), .int .u64 (id : Nat), .int .i64 (nn : Nat), .int .u64 (at' : Nat), .string name, .string text, .int .i64 vk, .int .i64 vn, .float .f64 vf, .string vs, .slice A m c]) := Lib.hid fun W hW => hbx.later hW hzz
  have HVal := Lib.hid (hval W0 HB0.out)
  have HOf := Lib.hid hof
  have HVB : Hid (∀ W, Below W0.heap.size W0 W → _) := Lib.hid fun W hW => hvb W (HB0.out.trans (hW.mono HB0.out.size))
  obtain ⟨a0, a1, a2, a3, a4, a5, a6, a7, a8, a9, a10⟩ := EBox.cells hbx
  have hwn : IntKind.u64.wrap (nn : Int) = (nn : Int) := by rw [IntKind.wrap_u64]; omega
  have hwk : IntKind.u64.wrap (k : Int) = (k : Int) := by rw [IntKind.wrap_u64]; omega
  clear hbx hval hof hvb
  replace hW0 := Lib.hid hW0
  go_enter Tryz.func14, Tryz.ntmps14
  go_upto_region 1 with fail
  rw [← hW0.out]
  go_wp2_with fail
  refine HVal.out.mono ?_
  rintro e w1 ⟨rfl, hb1⟩
  have HB1 := Lib.hid hb1
  clear a0 a1 a2 a3 a4 a5 a6 a7 a8 a9 a10
  obtain ⟨a0, -⟩ := EBox.cells (HX.out w1 hb1)
  clear hb1 HVal
  go_wp2_with fail
  refine (HOf.out _).mono ?_
  rintro e w2 ⟨rfl, hb2⟩
  have HB2 : Hid (Below W0.heap.size W0 w2) := Lib.hid (HB1.out.trans (hb2.mono HB1.out.size))
  clear hb2 a0
  obtain ⟨W3, hW3⟩ : ∃ W3, W3 = w2.alloc (.cells #[.string nm, .bool b0, .bool b1, .bool b2, .bool b3, .bool b4, .bool b5] 69) := ⟨_, rfl⟩
  have HB3 : Hid (Below W0.heap.size W0 W3) := Lib.hid (by rw [hW3]; exact HB2.out.alloc HB2.out.size _)
  have HRW : Hid (RowAt W3 w2.heap.size #[.string nm, .bool b0, .bool b1, .bool b2, .bool b3, .bool b4, .bool b5]) := Lib.hid (by rw [hW3]; exact heap_alloc_new w2 _)
  have hz3 : w2.heap.size < W3.heap.size := by rw [hW3]; simp
  replace hW3 := Lib.hid hW3
  obtain ⟨a0, a1, a2, a3, a4, a5, a6, a7, a8, a9, a10⟩ := EBox.cells (HX.out W3 HB3.out)
  go_upto_region 4 with fail
  rw [← hW3.out]
  go_wp2_with fail
  refine (HVB.out _ HB3.out).mono ?_
  rintro e wq ⟨vL, rfl, hownL, hbq⟩
  have HBQ : Hid (Below W0.heap.size W0 wq) := Lib.hid (HB3.out.trans (hbq.mono HB3.out.size))
  have HRQ : Hid (RowAt wq w2.heap.size #[.string nm, .bool b0, .bool b1, .bool b2, .bool b3, .bool b4, .bool b5]) := Lib.hid ((hbq.block _ hz3).trans HRW.out)
  have hzq : w2.heap.size < wq.heap.size := Nat.lt_of_lt_of_le hz3 hbq.size
  have hz0q : w.heap.size < wq.heap.size := Nat.lt_of_lt_of_le hzz HBQ.out.size
  have PLQ := Lib.hid hownL.read
  obtain ⟨AL, qL, rfl⟩ := hownL.read.form
  have HS : Hid (∀ W, Below wq.heap.size wq W → W.cell? ⟨w.heap.size, 1, none⟩ = some (.int .u64 (id : Nat)) ∧ W.cell? ⟨w.heap.size, 2, none⟩ = some (.int .i64 (nn : Nat)) ∧ W.cell? ⟨w.heap.size, 3, none⟩ = some (.int .u64 (at' : Nat)) ∧ W.cell? ⟨w.heap.size, 4, none⟩ = some (.string name) ∧ W.cell? ⟨w.heap.size, 5, none⟩ = some (.string text)) := Lib.hid fun W hW => by
    obtain ⟨-, c1, c2, c3, c4, c5, -⟩ := EBox.cells (HX.out W (HBQ.out.trans (hW.mono HBQ.out.size)))
    exact ⟨c1, c2, c3, c4, c5⟩
  clear hownL hbq a0 a1 a2 a3 a4 a5 a6 a7 a8 a9 a10 HRW HB3 HB2 HB1 HOf HVB
  replace hz3 := Lib.hid hz3
  go_upto_region 5 with fail
  go_cut [8] from 27 to 44 (fun z wx => ∃ b, z = .pointer (some ⟨b, 0, none⟩) ∧ Six wx b [l0, l1, l2, l3, l4, lv] ∧ Below wq.heap.size wq wx)
  case first =>
    have HB0 : Hid (Below wq.heap.size wq wq.drew) := Lib.hid (below_drew (Below.refl _ _))
    have PL_0 := Lib.hid (PLQ.out.later (below_drew (Below.refl _ _)))
    refine wp_region_noPanic ?_
    refine wp_region_held_drew (S := (fun w' : World => w'.cell? ⟨w.heap.size, 1, none⟩ = some (.int .u64 (id : Nat)) ∧ w'.cell? ⟨w.heap.size, 2, none⟩ = some (.int .i64 (nn : Nat)) ∧ w'.cell? ⟨w.heap.size, 3, none⟩ = some (.int .u64 (at' : Nat)) ∧ w'.cell? ⟨w.heap.size, 4, none⟩ = some (.string name) ∧ w'.cell? ⟨w.heap.size, 5, none⟩ = some (.string text))) (by kernel_rfl) ?_ (fun hH0 => ?_)
    · exact HS.out _ HB0.out
    refine tk (i := 0) rfl ?_
    try simp only [Act.put, List.setIfInBounds_toArray, List.set_cons_zero, List.set_cons_succ]
    refine tk (i := 1) rfl ?_
    try simp only [Act.put, List.setIfInBounds_toArray, List.set_cons_zero, List.set_cons_succ]
    refine tk (i := 3) rfl ?_
    try simp only [Act.put, List.setIfInBounds_toArray, List.set_cons_zero, List.set_cons_succ]
    refine tk (i := 4) rfl ?_
    try simp only [Act.put, List.setIfInBounds_toArray, List.set_cons_zero, List.set_cons_succ]
    refine tk (i := 5) rfl ?_
    try simp only [Act.put, List.setIfInBounds_toArray, List.set_cons_zero, List.set_cons_succ]
    refine tk (i := 7) rfl ?_
    try simp only [Act.put, List.setIfInBounds_toArray, List.set_cons_zero, List.set_cons_succ]
    refine tk (i := 8) rfl ?_
    try simp only [Act.put, List.setIfInBounds_toArray, List.set_cons_zero, List.set_cons_succ]
    refine tk (i := 10) rfl ?_
    try simp only [Act.put, List.setIfInBounds_toArray, List.set_cons_zero, List.set_cons_succ]
    refine tk (i := 11) rfl ?_
    try simp only [Act.put, List.setIfInBounds_toArray, List.set_cons_zero, List.set_cons_succ]
    refine tk (i := 13) rfl ?_
    try simp only [Act.put, List.setIfInBounds_toArray, List.set_cons_zero, List.set_cons_succ]
    refine tk (i := 14) rfl ?_
    try simp only [Act.put, List.setIfInBounds_toArray, List.set_cons_zero, List.set_cons_succ]
    refine tk (i := 16) rfl ?_
    try simp only [Act.put, List.setIfInBounds_toArray, List.set_cons_zero, List.set_cons_succ]
    refine wpAnyH_ready (rs := [2, 18]) (by kernel_rfl) (by simp) ?_
    refine cons_drop rfl (fun K hK => ?_) (cons_drop rfl (fun K hK => ?_) AllReadyH.nil)
    · go_simp
      refine (HUi.out _).mono ?_
      rintro e u1 ⟨x0, rfl, ho, hb⟩
      have HG0 := Lib.hid ho.row_ge
      obtain ⟨A0, q0, rfl⟩ := ho.read.form
      have P0_1 := Lib.hid ho.read
      have PL_1 := Lib.hid (PL_0.out.later hb)
      have HB1 : Hid (Below wq.heap.size wq u1) := Lib.hid (HB0.out.trans (hb.mono HB0.out.size))
      clear ho hb
      go_wp2_with fail
      refine hK.out _ _ (HS.out _ HB1.out) (fun hH1 => ?_)
      clear hK K hH0
      try simp only [Act.put, List.setIfInBounds_toArray, List.set_cons_zero, List.set_cons_succ]
      refine wpAnyH_ready (rs := [6, 18]) (by kernel_rfl) (by simp) ?_
      refine cons_drop rfl (fun K hK => ?_) (cons_drop rfl (fun K hK => ?_) AllReadyH.nil)
      · go_simp
        refine (HUn.out _).mono ?_
        rintro e u2 ⟨x1, rfl, ho, hb⟩
        have HG1 := Lib.hid ho.row_ge
        obtain ⟨A1, q1, rfl⟩ := ho.read.form
        have P1_2 := Lib.hid ho.read
        have P0_2 := Lib.hid (P0_1.out.later hb)
        have PL_2 := Lib.hid (PL_1.out.later hb)
        have HB2 : Hid (Below wq.heap.size wq u2) := Lib.hid (HB1.out.trans (hb.mono HB1.out.size))
        clear ho hb
        go_wp2_with fail
        refine hK.out _ _ (HS.out _ HB2.out) (fun hH2 => ?_)
        clear hK K hH1
        try simp only [Act.put, List.setIfInBounds_toArray, List.set_cons_zero, List.set_cons_succ]
        refine wpAnyH_ready (rs := [9, 18]) (by kernel_rfl) (by simp) ?_
        refine cons_drop rfl (fun K hK => ?_) (cons_drop rfl (fun K hK => ?_) AllReadyH.nil)
        · go_simp
          refine (HUa.out _).mono ?_
          rintro e u3 ⟨x2, rfl, ho, hb⟩
          have HG2 := Lib.hid ho.row_ge
          obtain ⟨A2, q2, rfl⟩ := ho.read.form
          have P2_3 := Lib.hid ho.read
          have P0_3 := Lib.hid (P0_2.out.later hb)
          have P1_3 := Lib.hid (P1_2.out.later hb)
          have PL_3 := Lib.hid (PL_2.out.later hb)
          have HB3 : Hid (Below wq.heap.size wq u3) := Lib.hid (HB2.out.trans (hb.mono HB2.out.size))
          clear ho hb
          go_wp2_with fail
          refine hK.out _ _ (HS.out _ HB3.out) (fun hH3 => ?_)
          clear hK K hH2
          try simp only [Act.put, List.setIfInBounds_toArray, List.set_cons_zero, List.set_cons_succ]
          refine wpAnyH_ready (rs := [12, 18]) (by kernel_rfl) (by simp) ?_
          refine cons_drop rfl (fun K hK => ?_) (cons_drop rfl (fun K hK => ?_) AllReadyH.nil)
          · go_simp
            refine (HTn.out _).mono ?_
            rintro e u4 ⟨x3, rfl, ho, hb⟩
            have HG3 := Lib.hid ho.row_ge
            obtain ⟨A3, q3, rfl⟩ := ho.read.form
            have P3_4 := Lib.hid ho.read
            have P0_4 := Lib.hid (P0_3.out.later hb)
            have P1_4 := Lib.hid (P1_3.out.later hb)
            have P2_4 := Lib.hid (P2_3.out.later hb)
            have PL_4 := Lib.hid (PL_3.out.later hb)
            have HB4 : Hid (Below wq.heap.size wq u4) := Lib.hid (HB3.out.trans (hb.mono HB3.out.size))
            clear ho hb
            go_wp2_with fail
            refine hK.out _ _ (HS.out _ HB4.out) (fun hH4 => ?_)
            clear hK K hH3
            try simp only [Act.put, List.setIfInBounds_toArray, List.set_cons_zero, List.set_cons_succ]
            refine wpAnyH_ready (rs := [15, 18]) (by kernel_rfl) (by simp) ?_
            refine cons_drop rfl (fun K hK => ?_) (cons_drop rfl (fun K hK => ?_) AllReadyH.nil)
            · go_simp
              refine (HTt.out _).mono ?_
              rintro e u5 ⟨x4, rfl, ho, hb⟩
              have HG4 := Lib.hid ho.row_ge
              obtain ⟨A4, q4, rfl⟩ := ho.read.form
              have P4_5 := Lib.hid ho.read
              have P0_5 := Lib.hid (P0_4.out.later hb)
              have P1_5 := Lib.hid (P1_4.out.later hb)
              have P2_5 := Lib.hid (P2_4.out.later hb)
              have P3_5 := Lib.hid (P3_4.out.later hb)
              have PL_5 := Lib.hid (PL_4.out.later hb)
              have HB5 : Hid (Below wq.heap.size wq u5) := Lib.hid (HB4.out.trans (hb.mono HB4.out.size))
              clear ho hb
              go_wp2_with fail
              refine hK.out _ _ (HS.out _ HB5.out) (fun hH5 => ?_)
              clear hK K hH4
              try simp only [Act.put, List.setIfInBounds_toArray, List.set_cons_zero, List.set_cons_succ]
              refine tk (i := 17) rfl ?_
              try simp only [Act.put, List.setIfInBounds_toArray, List.set_cons_zero, List.set_cons_succ]
              refine wpAnyH_ready (rs := [18]) (by kernel_rfl) (by simp) ?_
              refine cons_drop rfl (fun K hK => ?_) AllReadyH.nil
              go_simp
              refine hK.out _ _ (HS.out _ (HB5.out.alloc HB5.out.size _)) (fun hH => ?_)
              clear hK K hH5
              try simp only [Act.put, List.setIfInBounds_toArray, List.set_cons_zero, List.set_cons_succ]
              refine wpAnyH_ready (rs := [19]) (by kernel_rfl) (by simp) ?_
              refine cons_drop rfl (fun K hK => ?_) AllReadyH.nil
              go_simp
              refine hK.out _ _ (HS.out _ (HB5.out.alloc HB5.out.size _)) (fun hHH => ?_)
              clear hK K hH
              try simp only [Act.put, List.setIfInBounds_toArray, List.set_cons_zero, List.set_cons_succ]
              refine wpAnyH_done (by kernel_rfl) ?_ _
              refine NoPanic.normal ?_
              go_wp2_with fail
              go_meet
              case rel => exact ⟨_, rfl, ⟨_, _, _, _, _, _, heap_alloc_new u5 _, P0_5.out.later ((Below.refl _ _).alloc (Nat.le_refl _) _), P1_5.out.later ((Below.refl _ _).alloc (Nat.le_refl _) _), P2_5.out.later ((Below.refl _ _).alloc (Nat.le_refl _) _), P3_5.out.later ((Below.refl _ _).alloc (Nat.le_refl _) _), P4_5.out.later ((Below.refl _ _).alloc (Nat.le_refl _) _), PL_5.out.later ((Below.refl _ _).alloc (Nat.le_refl _) _)⟩, HB5.out.alloc HB5.out.size _⟩
            · go_simp
              obtain ⟨u6, hu6⟩ : ∃ u, u = u4.alloc (.cells #[.slice none 0 0, .slice none 0 0, .slice none 0 0, .slice none 0 0, .slice none 0 0, .slice none 0 0] 85) := ⟨_, rfl⟩
              rw [← hu6]
              have hbz : Below u4.heap.size u4 u6 := by rw [hu6]; exact (Below.refl _ _).alloc (Nat.le_refl _) _
              have HR6 : Hid (u6.heap[u4.heap.size]? = some (.cells #[.slice none 0 0, .slice none 0 0, .slice none 0 0, .slice none 0 0, .slice none 0 0, .slice none 0 0] 85 (0, 0))) := Lib.hid (by rw [hu6]; exact heap_alloc_new u4 _)
              have P0_6 := Lib.hid (P0_4.out.later hbz)
              have P1_6 := Lib.hid (P1_4.out.later hbz)
              have P2_6 := Lib.hid (P2_4.out.later hbz)
              have P3_6 := Lib.hid (P3_4.out.later hbz)
              have PL_6 := Lib.hid (PL_4.out.later hbz)
              have HB6 : Hid (Below wq.heap.size wq u6) := Lib.hid (HB4.out.trans (hbz.mono HB4.out.size))
              have hgs6 : u4.heap.size < u6.heap.size := by rw [hu6]; simp
              have HD0 := P0_4.out.apart
              have HD1 := P1_4.out.apart
              have HD2 := P2_4.out.apart
              have HD3 := P3_4.out.apart
              have HDL := PL_4.out.apart
              clear hbz
              replace hu6 := Lib.hid hu6
              obtain ⟨ga, hga⟩ : ∃ ga, ga = u4.heap.size := ⟨_, rfl⟩
              have hgl : wq.heap.size ≤ ga := by rw [hga]; exact HB4.out.size
              rw [← hga] at HR6 hgs6 HDL HD0 HD1 HD2 HD3 ⊢
              replace hga := Lib.hid hga
              refine hK.out _ _ (HS.out _ HB6.out) (fun hH6 => ?_)
              clear hK K hH4
              try simp only [Act.put, List.setIfInBounds_toArray, List.set_cons_zero, List.set_cons_succ]
              refine wpAnyH_ready (rs := [15]) (by kernel_rfl) (by simp) ?_
              refine cons_drop rfl (fun K hK => ?_) AllReadyH.nil
              go_simp
              refine (HTt.out _).mono ?_
              rintro e u7 ⟨x4, rfl, ho, hb⟩
              have HG4 := Lib.hid ho.row_ge
              obtain ⟨A4, q4, rfl⟩ := ho.read.form
              have P4_7 := Lib.hid ho.read
              have P0_7 := Lib.hid (P0_6.out.later hb)
              have P1_7 := Lib.hid (P1_6.out.later hb)
              have P2_7 := Lib.hid (P2_6.out.later hb)
              have P3_7 := Lib.hid (P3_6.out.later hb)
              have PL_7 := Lib.hid (PL_6.out.later hb)
              have HB7 : Hid (Below wq.heap.size wq u7) := Lib.hid (HB6.out.trans (hb.mono HB6.out.size))
              have HD4 : Apart _ ga := fun k hk => by have := HG4.out k hk; omega
              have hgs7 : ga < u7.heap.size := Nat.lt_of_lt_of_le hgs6 hb.size
              have HR7 := Lib.hid ((hb.block ga (Array.getElem?_eq_some_iff.1 HR6.out).1).trans HR6.out)
              clear ho hb
              go_wp2_with fail
              refine hK.out _ _ (HS.out _ HB7.out) (fun hH7 => ?_)
              clear hK K hH6
              try simp only [Act.put, List.setIfInBounds_toArray, List.set_cons_zero, List.set_cons_succ]
              refine tk (i := 17) rfl ?_
              try simp only [Act.put, List.setIfInBounds_toArray, List.set_cons_zero, List.set_cons_succ]
              refine wpAnyH_ready (rs := [19]) (by kernel_rfl) (by simp) ?_
              refine cons_drop rfl (fun K hK => ?_) AllReadyH.nil
              obtain ⟨y0, y1, y2, y3, y4, y5, z0, z1, z2, z3, z4, z5⟩ := six_cells HR7.out
              go_simp
              with_reducible refine hK.out _ _ (HS.out _ (six_ge HB7.out hgl _ _ _ _ _ _)) (fun hH => ?_)
              clear hK K hH7
              try simp only [Act.put, List.setIfInBounds_toArray, List.set_cons_zero, List.set_cons_succ]
              refine wpAnyH_done (by kernel_rfl) ?_ _
              refine NoPanic.normal ?_
              go_wp2_with fail
              go_meet
              case rel => exact ⟨_, rfl, ⟨_, _, _, _, _, _, six_row HR7.out _ _ _ _ _ _, P0_7.out.six HD0 _ _ _ _ _ _, P1_7.out.six HD1 _ _ _ _ _ _, P2_7.out.six HD2 _ _ _ _ _ _, P3_7.out.six HD3 _ _ _ _ _ _, P4_7.out.six HD4 _ _ _ _ _ _, PL_7.out.six HDL _ _ _ _ _ _⟩, six_ge HB7.out hgl _ _ _ _ _ _⟩
          · go_simp
            obtain ⟨u8, hu8⟩ : ∃ u, u = u3.alloc (.cells #[.slice none 0 0, .slice none 0 0, .slice none 0 0, .slice none 0 0, .slice none 0 0, .slice none 0 0] 85) := ⟨_, rfl⟩
            rw [← hu8]
            have hbz : Below u3.heap.size u3 u8 := by rw [hu8]; exact (Below.refl _ _).alloc (Nat.le_refl _) _
            have HR8 : Hid (u8.heap[u3.heap.size]? = some (.cells #[.slice none 0 0, .slice none 0 0, .slice none 0 0, .slice none 0 0, .slice none 0 0, .slice none 0 0] 85 (0, 0))) := Lib.hid (by rw [hu8]; exact heap_alloc_new u3 _)
            have P0_8 := Lib.hid (P0_3.out.later hbz)
            have P1_8 := Lib.hid (P1_3.out.later hbz)
            have P2_8 := Lib.hid (P2_3.out.later hbz)
            have PL_8 := Lib.hid (PL_3.out.later hbz)
            have HB8 : Hid (Below wq.heap.size wq u8) := Lib.hid (HB3.out.trans (hbz.mono HB3.out.size))
            have hgs8 : u3.heap.size < u8.heap.size := by rw [hu8]; simp
            have HD0 := P0_3.out.apart
            have HD1 := P1_3.out.apart
            have HD2 := P2_3.out.apart
            have HDL := PL_3.out.apart
            clear hbz
            replace hu8 := Lib.hid hu8
            obtain ⟨ga, hga⟩ : ∃ ga, ga = u3.heap.size := ⟨_, rfl⟩
            have hgl : wq.heap.size ≤ ga := by rw [hga]; exact HB3.out.size
            rw [← hga] at HR8 hgs8 HDL HD0 HD1 HD2 ⊢
            replace hga := Lib.hid hga
            refine hK.out _ _ (HS.out _ HB8.out) (fun hH8 => ?_)
            clear hK K hH3
            try simp only [Act.put, List.setIfInBounds_toArray, List.set_cons_zero, List.set_cons_succ]
            refine wpAnyH_ready (rs := [12]) (by kernel_rfl) (by simp) ?_
            refine cons_drop rfl (fun K hK => ?_) AllReadyH.nil
            go_simp
            refine (HTn.out _).mono ?_
            rintro e u9 ⟨x3, rfl, ho, hb⟩
            have HG3 := Lib.hid ho.row_ge
            obtain ⟨A3, q3, rfl⟩ := ho.read.form
            have P3_9 := Lib.hid ho.read
            have P0_9 := Lib.hid (P0_8.out.later hb)
            have P1_9 := Lib.hid (P1_8.out.later hb)
            have P2_9 := Lib.hid (P2_8.out.later hb)
            have PL_9 := Lib.hid (PL_8.out.later hb)
            have HB9 : Hid (Below wq.heap.size wq u9) := Lib.hid (HB8.out.trans (hb.mono HB8.out.size))
            have HD3 : Apart _ ga := fun k hk => by have := HG3.out k hk; omega
            have hgs9 : ga < u9.heap.size := Nat.lt_of_lt_of_le hgs8 hb.size
            have HR9 := Lib.hid ((hb.block ga (Array.getElem?_eq_some_iff.1 HR8.out).1).trans HR8.out)
            clear ho hb
            go_wp2_with fail
            refine hK.out _ _ (HS.out _ HB9.out) (fun hH9 => ?_)
            clear hK K hH8
            try simp only [Act.put, List.setIfInBounds_toArray, List.set_cons_zero, List.set_cons_succ]
            refine wpAnyH_ready (rs := [15]) (by kernel_rfl) (by simp) ?_
            refine cons_drop rfl (fun K hK => ?_) AllReadyH.nil
            go_simp
            refine (HTt.out _).mono ?_
            rintro e u10 ⟨x4, rfl, ho, hb⟩
            have HG4 := Lib.hid ho.row_ge
            obtain ⟨A4, q4, rfl⟩ := ho.read.form
            have P4_10 := Lib.hid ho.read
            have P0_10 := Lib.hid (P0_9.out.later hb)
            have P1_10 := Lib.hid (P1_9.out.later hb)
            have P2_10 := Lib.hid (P2_9.out.later hb)
            have P3_10 := Lib.hid (P3_9.out.later hb)
            have PL_10 := Lib.hid (PL_9.out.later hb)
            have HB10 : Hid (Below wq.heap.size wq u10) := Lib.hid (HB9.out.trans (hb.mono HB9.out.size))
            have HD4 : Apart _ ga := fun k hk => by have := HG4.out k hk; omega
            have hgs10 : ga < u10.heap.size := Nat.lt_of_lt_of_le hgs9 hb.size
            have HR10 := Lib.hid ((hb.block ga (Array.getElem?_eq_some_iff.1 HR9.out).1).trans HR9.out)
            clear ho hb
            go_wp2_with fail
            refine hK.out _ _ (HS.out _ HB10.out) (fun hH10 => ?_)
            clear hK K hH9
            try simp only [Act.put, List.setIfInBounds_toArray, List.set_cons_zero, List.set_cons_succ]
            refine tk (i := 17) rfl ?_
            try simp only [Act.put, List.setIfInBounds_toArray, List.set_cons_zero, List.set_cons_succ]
            refine wpAnyH_ready (rs := [19]) (by kernel_rfl) (by simp) ?_
            refine cons_drop rfl (fun K hK => ?_) AllReadyH.nil
            obtain ⟨y0, y1, y2, y3, y4, y5, z0, z1, z2, z3, z4, z5⟩ := six_cells HR10.out
            go_simp
            with_reducible refine hK.out _ _ (HS.out _ (six_ge HB10.out hgl _ _ _ _ _ _)) (fun hH => ?_)
            clear hK K hH10
            try simp only [Act.put, List.setIfInBounds_toArray, List.set_cons_zero, List.set_cons_succ]
            refine wpAnyH_done (by kernel_rfl) ?_ _
            refine NoPanic.normal ?_
            go_wp2_with fail
            go_meet
            case rel => exact ⟨_, rfl, ⟨_, _, _, _, _, _, six_row HR10.out _ _ _ _ _ _, P0_10.out.six HD0 _ _ _ _ _ _, P1_10.out.six HD1 _ _ _ _ _ _, P2_10.out.six HD2 _ _ _ _ _ _, P3_10.out.six HD3 _ _ _ _ _ _, P4_10.out.six HD4 _ _ _ _ _ _, PL_10.out.six HDL _ _ _ _ _ _⟩, six_ge HB10.out hgl _ _ _ _ _ _⟩
        · go_simp
          obtain ⟨u11, hu11⟩ : ∃ u, u = u2.alloc (.cells #[.slice none 0 0, .slice none 0 0, .slice none 0 0, .slice none 0 0, .slice none 0 0, .slice none 0 0] 85) := ⟨_, rfl⟩
          rw [← hu11]
          have hbz : Below u2.heap.size u2 u11 := by rw [hu11]; exact (Below.refl _ _).alloc (Nat.le_refl _) _
          have HR11 : Hid (u11.heap[u2.heap.size]? = some (.cells #[.slice none 0 0, .slice none 0 0, .slice none 0 0, .slice none 0 0, .slice none 0 0, .slice none 0 0] 85 (0, 0))) := Lib.hid (by rw [hu11]; exact heap_alloc_new u2 _)
          have P0_11 := Lib.hid (P0_2.out.later hbz)
          have P1_11 := Lib.hid (P1_2.out.later hbz)
          have PL_11 := Lib.hid (PL_2.out.later hbz)
          have HB11 : Hid (Below wq.heap.size wq u11) := Lib.hid (HB2.out.trans (hbz.mono HB2.out.size))
          have hgs11 : u2.heap.size < u11.heap.size := by rw [hu11]; simp
          have HD0 := P0_2.out.apart
          have HD1 := P1_2.out.apart
          have HDL := PL_2.out.apart
          clear hbz
          replace hu11 := Lib.hid hu11
          obtain ⟨ga, hga⟩ : ∃ ga, ga = u2.heap.size := ⟨_, rfl⟩
          have hgl : wq.heap.size ≤ ga := by rw [hga]; exact HB2.out.size
          rw [← hga] at HR11 hgs11 HDL HD0 HD1 ⊢
          replace hga := Lib.hid hga
          refine hK.out _ _ (HS.out _ HB11.out) (fun hH11 => ?_)
          clear hK K hH2
          try simp only [Act.put, List.setIfInBounds_toArray, List.set_cons_zero, List.set_cons_succ]
          refine wpAnyH_ready (rs := [9]) (by kernel_rfl) (by simp) ?_
          refine cons_drop rfl (fun K hK => ?_) AllReadyH.nil
          go_simp
          refine (HUa.out _).mono ?_
          rintro e u12 ⟨x2, rfl, ho, hb⟩
          have HG2 := Lib.hid ho.row_ge
          obtain ⟨A2, q2, rfl⟩ := ho.read.form
          have P2_12 := Lib.hid ho.read
          have P0_12 := Lib.hid (P0_11.out.later hb)
          have P1_12 := Lib.hid (P1_11.out.later hb)
          have PL_12 := Lib.hid (PL_11.out.later hb)
          have HB12 : Hid (Below wq.heap.size wq u12) := Lib.hid (HB11.out.trans (hb.mono HB11.out.size))
          have HD2 : Apart _ ga := fun k hk => by have := HG2.out k hk; omega
          have hgs12 : ga < u12.heap.size := Nat.lt_of_lt_of_le hgs11 hb.size
          have HR12 := Lib.hid ((hb.block ga (Array.getElem?_eq_some_iff.1 HR11.out).1).trans HR11.out)
          clear ho hb
          go_wp2_with fail
          refine hK.out _ _ (HS.out _ HB12.out) (fun hH12 => ?_)
          clear hK K hH11
          try simp only [Act.put, List.setIfInBounds_toArray, List.set_cons_zero, List.set_cons_succ]
          refine wpAnyH_ready (rs := [12]) (by kernel_rfl) (by simp) ?_
          refine cons_drop rfl (fun K hK => ?_) AllReadyH.nil
          go_simp
          refine (HTn.out _).mono ?_
          rintro e u13 ⟨x3, rfl, ho, hb⟩
          have HG3 := Lib.hid ho.row_ge
          obtain ⟨A3, q3, rfl⟩ := ho.read.form
          have P3_13 := Lib.hid ho.read
          have P0_13 := Lib.hid (P0_12.out.later hb)
          have P1_13 := Lib.hid (P1_12.out.later hb)
          have P2_13 := Lib.hid (P2_12.out.later hb)
          have PL_13 := Lib.hid (PL_12.out.later hb)
          have HB13 : Hid (Below wq.heap.size wq u13) := Lib.hid (HB12.out.trans (hb.mono HB12.out.size))
          have HD3 : Apart _ ga := fun k hk => by have := HG3.out k hk; omega
          have hgs13 : ga < u13.heap.size := Nat.lt_of_lt_of_le hgs12 hb.size
          have HR13 := Lib.hid ((hb.block ga (Array.getElem?_eq_some_iff.1 HR12.out).1).trans HR12.out)
          clear ho hb
          go_wp2_with fail
          refine hK.out _ _ (HS.out _ HB13.out) (fun hH13 => ?_)
          clear hK K hH12
          try simp only [Act.put, List.setIfInBounds_toArray, List.set_cons_zero, List.set_cons_succ]
          refine wpAnyH_ready (rs := [15]) (by kernel_rfl) (by simp) ?_
          refine cons_drop rfl (fun K hK => ?_) AllReadyH.nil
          go_simp
          refine (HTt.out _).mono ?_
          rintro e u14 ⟨x4, rfl, ho, hb⟩
          have HG4 := Lib.hid ho.row_ge
          obtain ⟨A4, q4, rfl⟩ := ho.read.form
          have P4_14 := Lib.hid ho.read
          have P0_14 := Lib.hid (P0_13.out.later hb)
          have P1_14 := Lib.hid (P1_13.out.later hb)
          have P2_14 := Lib.hid (P2_13.out.later hb)
          have P3_14 := Lib.hid (P3_13.out.later hb)
          have PL_14 := Lib.hid (PL_13.out.later hb)
          have HB14 : Hid (Below wq.heap.size wq u14) := Lib.hid (HB13.out.trans (hb.mono HB13.out.size))
          have HD4 : Apart _ ga := fun k hk => by have := HG4.out k hk; omega
          have hgs14 : ga < u14.heap.size := Nat.lt_of_lt_of_le hgs13 hb.size
          have HR14 := Lib.hid ((hb.block ga (Array.getElem?_eq_some_iff.1 HR13.out).1).trans HR13.out)
          clear ho hb
          go_wp2_with fail
          refine hK.out _ _ (HS.out _ HB14.out) (fun hH14 => ?_)
          clear hK K hH13
          try simp only [Act.put, List.setIfInBounds_toArray, List.set_cons_zero, List.set_cons_succ]
          refine tk (i := 17) rfl ?_
          try simp only [Act.put, List.setIfInBounds_toArray, List.set_cons_zero, List.set_cons_succ]
          refine wpAnyH_ready (rs := [19]) (by kernel_rfl) (by simp) ?_
          refine cons_drop rfl (fun K hK => ?_) AllReadyH.nil
          obtain ⟨y0, y1, y2, y3, y4, y5, z0, z1, z2, z3, z4, z5⟩ := six_cells HR14.out
          go_simp
          with_reducible refine hK.out _ _ (HS.out _ (six_ge HB14.out hgl _ _ _ _ _ _)) (fun hH => ?_)
          clear hK K hH14
          try simp only [Act.put, List.setIfInBounds_toArray, List.set_cons_zero, List.set_cons_succ]
          refine wpAnyH_done (by kernel_rfl) ?_ _
          refine NoPanic.normal ?_
          go_wp2_with fail
          go_meet
          case rel => exact ⟨_, rfl, ⟨_, _, _, _, _, _, six_row HR14.out _ _ _ _ _ _, P0_14.out.six HD0 _ _ _ _ _ _, P1_14.out.six HD1 _ _ _ _ _ _, P2_14.out.six HD2 _ _ _ _ _ _, P3_14.out.six HD3 _ _ _ _ _ _, P4_14.out.six HD4 _ _ _ _ _ _, PL_14.out.six HDL _ _ _ _ _ _⟩, six_ge HB14.out hgl _ _ _ _ _ _⟩
      · go_simp
        obtain ⟨u15, hu15⟩ : ∃ u, u = u1.alloc (.cells #[.slice none 0 0, .slice none 0 0, .slice none 0 0, .slice none 0 0, .slice none 0 0, .slice none 0 0] 85) := ⟨_, rfl⟩
        rw [← hu15]
        have hbz : Below u1.heap.size u1 u15 := by rw [hu15]; exact (Below.refl _ _).alloc (Nat.le_refl _) _
        have HR15 : Hid (u15.heap[u1.heap.size]? = some (.cells #[.slice none 0 0, .slice none 0 0, .slice none 0 0, .slice none 0 0, .slice none 0 0, .slice none 0 0] 85 (0, 0))) := Lib.hid (by rw [hu15]; exact heap_alloc_new u1 _)
        have P0_15 := Lib.hid (P0_1.out.later hbz)
        have PL_15 := Lib.hid (PL_1.out.later hbz)
        have HB15 : Hid (Below wq.heap.size wq u15) := Lib.hid (HB1.out.trans (hbz.mono HB1.out.size))
        have hgs15 : u1.heap.size < u15.heap.size := by rw [hu15]; simp
        have HD0 := P0_1.out.apart
        have HDL := PL_1.out.apart
        clear hbz
        replace hu15 := Lib.hid hu15
        obtain ⟨ga, hga⟩ : ∃ ga, ga = u1.heap.size := ⟨_, rfl⟩
        have hgl : wq.heap.size ≤ ga := by rw [hga]; exact HB1.out.size
        rw [← hga] at HR15 hgs15 HDL HD0 ⊢
        replace hga := Lib.hid hga
        refine hK.out _ _ (HS.out _ HB15.out) (fun hH15 => ?_)
        clear hK K hH1
        try simp only [Act.put, List.setIfInBounds_toArray, List.set_cons_zero, List.set_cons_succ]
        refine wpAnyH_ready (rs := [6]) (by kernel_rfl) (by simp) ?_
        refine cons_drop rfl (fun K hK => ?_) AllReadyH.nil
        go_simp
        refine (HUn.out _).mono ?_
        rintro e u16 ⟨x1, rfl, ho, hb⟩
        have HG1 := Lib.hid ho.row_ge
        obtain ⟨A1, q1, rfl⟩ := ho.read.form
        have P1_16 := Lib.hid ho.read
        have P0_16 := Lib.hid (P0_15.out.later hb)
        have PL_16 := Lib.hid (PL_15.out.later hb)
        have HB16 : Hid (Below wq.heap.size wq u16) := Lib.hid (HB15.out.trans (hb.mono HB15.out.size))
        have HD1 : Apart _ ga := fun k hk => by have := HG1.out k hk; omega
        have hgs16 : ga < u16.heap.size := Nat.lt_of_lt_of_le hgs15 hb.size
        have HR16 := Lib.hid ((hb.block ga (Array.getElem?_eq_some_iff.1 HR15.out).1).trans HR15.out)
        clear ho hb
        go_wp2_with fail
        refine hK.out _ _ (HS.out _ HB16.out) (fun hH16 => ?_)
        clear hK K hH15
        try simp only [Act.put, List.setIfInBounds_toArray, List.set_cons_zero, List.set_cons_succ]
        refine wpAnyH_ready (rs := [9]) (by kernel_rfl) (by simp) ?_
        refine cons_drop rfl (fun K hK => ?_) AllReadyH.nil
        go_simp
        refine (HUa.out _).mono ?_
        rintro e u17 ⟨x2, rfl, ho, hb⟩
        have HG2 := Lib.hid ho.row_ge
        obtain ⟨A2, q2, rfl⟩ := ho.read.form
        have P2_17 := Lib.hid ho.read
        have P0_17 := Lib.hid (P0_16.out.later hb)
        have P1_17 := Lib.hid (P1_16.out.later hb)
        have PL_17 := Lib.hid (PL_16.out.later hb)
        have HB17 : Hid (Below wq.heap.size wq u17) := Lib.hid (HB16.out.trans (hb.mono HB16.out.size))
        have HD2 : Apart _ ga := fun k hk => by have := HG2.out k hk; omega
        have hgs17 : ga < u17.heap.size := Nat.lt_of_lt_of_le hgs16 hb.size
        have HR17 := Lib.hid ((hb.block ga (Array.getElem?_eq_some_iff.1 HR16.out).1).trans HR16.out)
        clear ho hb
        go_wp2_with fail
        refine hK.out _ _ (HS.out _ HB17.out) (fun hH17 => ?_)
        clear hK K hH16
        try simp only [Act.put, List.setIfInBounds_toArray, List.set_cons_zero, List.set_cons_succ]
        refine wpAnyH_ready (rs := [12]) (by kernel_rfl) (by simp) ?_
        refine cons_drop rfl (fun K hK => ?_) AllReadyH.nil
        go_simp
        refine (HTn.out _).mono ?_
        rintro e u18 ⟨x3, rfl, ho, hb⟩
        have HG3 := Lib.hid ho.row_ge
        obtain ⟨A3, q3, rfl⟩ := ho.read.form
        have P3_18 := Lib.hid ho.read
        have P0_18 := Lib.hid (P0_17.out.later hb)
        have P1_18 := Lib.hid (P1_17.out.later hb)
        have P2_18 := Lib.hid (P2_17.out.later hb)
        have PL_18 := Lib.hid (PL_17.out.later hb)
        have HB18 : Hid (Below wq.heap.size wq u18) := Lib.hid (HB17.out.trans (hb.mono HB17.out.size))
        have HD3 : Apart _ ga := fun k hk => by have := HG3.out k hk; omega
        have hgs18 : ga < u18.heap.size := Nat.lt_of_lt_of_le hgs17 hb.size
        have HR18 := Lib.hid ((hb.block ga (Array.getElem?_eq_some_iff.1 HR17.out).1).trans HR17.out)
        clear ho hb
        go_wp2_with fail
        refine hK.out _ _ (HS.out _ HB18.out) (fun hH18 => ?_)
        clear hK K hH17
        try simp only [Act.put, List.setIfInBounds_toArray, List.set_cons_zero, List.set_cons_succ]
        refine wpAnyH_ready (rs := [15]) (by kernel_rfl) (by simp) ?_
        refine cons_drop rfl (fun K hK => ?_) AllReadyH.nil
        go_simp
        refine (HTt.out _).mono ?_
        rintro e u19 ⟨x4, rfl, ho, hb⟩
        have HG4 := Lib.hid ho.row_ge
        obtain ⟨A4, q4, rfl⟩ := ho.read.form
        have P4_19 := Lib.hid ho.read
        have P0_19 := Lib.hid (P0_18.out.later hb)
        have P1_19 := Lib.hid (P1_18.out.later hb)
        have P2_19 := Lib.hid (P2_18.out.later hb)
        have P3_19 := Lib.hid (P3_18.out.later hb)
        have PL_19 := Lib.hid (PL_18.out.later hb)
        have HB19 : Hid (Below wq.heap.size wq u19) := Lib.hid (HB18.out.trans (hb.mono HB18.out.size))
        have HD4 : Apart _ ga := fun k hk => by have := HG4.out k hk; omega
        have hgs19 : ga < u19.heap.size := Nat.lt_of_lt_of_le hgs18 hb.size
        have HR19 := Lib.hid ((hb.block ga (Array.getElem?_eq_some_iff.1 HR18.out).1).trans HR18.out)
        clear ho hb
        go_wp2_with fail
        refine hK.out _ _ (HS.out _ HB19.out) (fun hH19 => ?_)
        clear hK K hH18
        try simp only [Act.put, List.setIfInBounds_toArray, List.set_cons_zero, List.set_cons_succ]
        refine tk (i := 17) rfl ?_
        try simp only [Act.put, List.setIfInBounds_toArray, List.set_cons_zero, List.set_cons_succ]
        refine wpAnyH_ready (rs := [19]) (by kernel_rfl) (by simp) ?_
        refine cons_drop rfl (fun K hK => ?_) AllReadyH.nil
        obtain ⟨y0, y1, y2, y3, y4, y5, z0, z1, z2, z3, z4, z5⟩ := six_cells HR19.out
        go_simp
        with_reducible refine hK.out _ _ (HS.out _ (six_ge HB19.out hgl _ _ _ _ _ _)) (fun hH => ?_)
        clear hK K hH19
        try simp only [Act.put, List.setIfInBounds_toArray, List.set_cons_zero, List.set_cons_succ]
        refine wpAnyH_done (by kernel_rfl) ?_ _
        refine NoPanic.normal ?_
        go_wp2_with fail
        go_meet
        case rel => exact ⟨_, rfl, ⟨_, _, _, _, _, _, six_row HR19.out _ _ _ _ _ _, P0_19.out.six HD0 _ _ _ _ _ _, P1_19.out.six HD1 _ _ _ _ _ _, P2_19.out.six HD2 _ _ _ _ _ _, P3_19.out.six HD3 _ _ _ _ _ _, P4_19.out.six HD4 _ _ _ _ _ _, PL_19.out.six HDL _ _ _ _ _ _⟩, six_ge HB19.out hgl _ _ _ _ _ _⟩
    · go_simp
      obtain ⟨u20, hu20⟩ : ∃ u, u = (wq.alloc (.cells #[.slice none 0 0, .slice none 0 0, .slice none 0 0, .slice none 0 0, .slice none 0 0, .slice none 0 0] 85)).drew := ⟨_, rfl⟩
      rw [← hu20]
      have hbz : Below wq.heap.size wq u20 := by rw [hu20]; exact below_drew ((Below.refl _ _).alloc (Nat.le_refl _) _)
      have HR20 : Hid (u20.heap[wq.heap.size]? = some (.cells #[.slice none 0 0, .slice none 0 0, .slice none 0 0, .slice none 0 0, .slice none 0 0, .slice none 0 0] 85 (0, 0))) := Lib.hid (by rw [hu20]; exact heap_alloc_new wq _)
      have PL_20 := Lib.hid (PLQ.out.later hbz)
      have HB20 : Hid (Below wq.heap.size wq u20) := Lib.hid hbz
      have hgs20 : wq.heap.size < u20.heap.size := by rw [hu20]; simp [World.drew]
      have HDL := PLQ.out.apart
      clear hbz
      replace hu20 := Lib.hid hu20
      obtain ⟨ga, hga⟩ : ∃ ga, ga = wq.heap.size := ⟨_, rfl⟩
      have hgl : wq.heap.size ≤ ga := by rw [hga]; exact Nat.le_refl _
      rw [← hga] at HR20 hgs20 HDL  ⊢
      replace hga := Lib.hid hga
      refine hK.out _ _ (HS.out _ HB20.out) (fun hH20 => ?_)
      clear hK K hH0
      try simp only [Act.put, List.setIfInBounds_toArray, List.set_cons_zero, List.set_cons_succ]
      refine wpAnyH_ready (rs := [2]) (by kernel_rfl) (by simp) ?_
      refine cons_drop rfl (fun K hK => ?_) AllReadyH.nil
      go_simp
      refine (HUi.out _).mono ?_
      rintro e u21 ⟨x0, rfl, ho, hb⟩
      have HG0 := Lib.hid ho.row_ge
      obtain ⟨A0, q0, rfl⟩ := ho.read.form
      have P0_21 := Lib.hid ho.read
      have PL_21 := Lib.hid (PL_20.out.later hb)
      have HB21 : Hid (Below wq.heap.size wq u21) := Lib.hid (HB20.out.trans (hb.mono HB20.out.size))
      have HD0 : Apart _ ga := fun k hk => by have := HG0.out k hk; omega
      have hgs21 : ga < u21.heap.size := Nat.lt_of_lt_of_le hgs20 hb.size
      have HR21 := Lib.hid ((hb.block ga (Array.getElem?_eq_some_iff.1 HR20.out).1).trans HR20.out)
      clear ho hb
      go_wp2_with fail
      refine hK.out _ _ (HS.out _ HB21.out) (fun hH21 => ?_)
      clear hK K hH20
      try simp only [Act.put, List.setIfInBounds_toArray, List.set_cons_zero, List.set_cons_succ]
      refine wpAnyH_ready (rs := [6]) (by kernel_rfl) (by simp) ?_
      refine cons_drop rfl (fun K hK => ?_) AllReadyH.nil
      go_simp
      refine (HUn.out _).mono ?_
      rintro e u22 ⟨x1, rfl, ho, hb⟩
      have HG1 := Lib.hid ho.row_ge
      obtain ⟨A1, q1, rfl⟩ := ho.read.form
      have P1_22 := Lib.hid ho.read
      have P0_22 := Lib.hid (P0_21.out.later hb)
      have PL_22 := Lib.hid (PL_21.out.later hb)
      have HB22 : Hid (Below wq.heap.size wq u22) := Lib.hid (HB21.out.trans (hb.mono HB21.out.size))
      have HD1 : Apart _ ga := fun k hk => by have := HG1.out k hk; omega
      have hgs22 : ga < u22.heap.size := Nat.lt_of_lt_of_le hgs21 hb.size
      have HR22 := Lib.hid ((hb.block ga (Array.getElem?_eq_some_iff.1 HR21.out).1).trans HR21.out)
      clear ho hb
      go_wp2_with fail
      refine hK.out _ _ (HS.out _ HB22.out) (fun hH22 => ?_)
      clear hK K hH21
      try simp only [Act.put, List.setIfInBounds_toArray, List.set_cons_zero, List.set_cons_succ]
      refine wpAnyH_ready (rs := [9]) (by kernel_rfl) (by simp) ?_
      refine cons_drop rfl (fun K hK => ?_) AllReadyH.nil
      go_simp
      refine (HUa.out _).mono ?_
      rintro e u23 ⟨x2, rfl, ho, hb⟩
      have HG2 := Lib.hid ho.row_ge
      obtain ⟨A2, q2, rfl⟩ := ho.read.form
      have P2_23 := Lib.hid ho.read
      have P0_23 := Lib.hid (P0_22.out.later hb)
      have P1_23 := Lib.hid (P1_22.out.later hb)
      have PL_23 := Lib.hid (PL_22.out.later hb)
      have HB23 : Hid (Below wq.heap.size wq u23) := Lib.hid (HB22.out.trans (hb.mono HB22.out.size))
      have HD2 : Apart _ ga := fun k hk => by have := HG2.out k hk; omega
      have hgs23 : ga < u23.heap.size := Nat.lt_of_lt_of_le hgs22 hb.size
      have HR23 := Lib.hid ((hb.block ga (Array.getElem?_eq_some_iff.1 HR22.out).1).trans HR22.out)
      clear ho hb
      go_wp2_with fail
      refine hK.out _ _ (HS.out _ HB23.out) (fun hH23 => ?_)
      clear hK K hH22
      try simp only [Act.put, List.setIfInBounds_toArray, List.set_cons_zero, List.set_cons_succ]
      refine wpAnyH_ready (rs := [12]) (by kernel_rfl) (by simp) ?_
      refine cons_drop rfl (fun K hK => ?_) AllReadyH.nil
      go_simp
      refine (HTn.out _).mono ?_
      rintro e u24 ⟨x3, rfl, ho, hb⟩
      have HG3 := Lib.hid ho.row_ge
      obtain ⟨A3, q3, rfl⟩ := ho.read.form
      have P3_24 := Lib.hid ho.read
      have P0_24 := Lib.hid (P0_23.out.later hb)
      have P1_24 := Lib.hid (P1_23.out.later hb)
      have P2_24 := Lib.hid (P2_23.out.later hb)
      have PL_24 := Lib.hid (PL_23.out.later hb)
      have HB24 : Hid (Below wq.heap.size wq u24) := Lib.hid (HB23.out.trans (hb.mono HB23.out.size))
      have HD3 : Apart _ ga := fun k hk => by have := HG3.out k hk; omega
      have hgs24 : ga < u24.heap.size := Nat.lt_of_lt_of_le hgs23 hb.size
      have HR24 := Lib.hid ((hb.block ga (Array.getElem?_eq_some_iff.1 HR23.out).1).trans HR23.out)
      clear ho hb
      go_wp2_with fail
      refine hK.out _ _ (HS.out _ HB24.out) (fun hH24 => ?_)
      clear hK K hH23
      try simp only [Act.put, List.setIfInBounds_toArray, List.set_cons_zero, List.set_cons_succ]
      refine wpAnyH_ready (rs := [15]) (by kernel_rfl) (by simp) ?_
      refine cons_drop rfl (fun K hK => ?_) AllReadyH.nil
      go_simp
      refine (HTt.out _).mono ?_
      rintro e u25 ⟨x4, rfl, ho, hb⟩
      have HG4 := Lib.hid ho.row_ge
      obtain ⟨A4, q4, rfl⟩ := ho.read.form
      have P4_25 := Lib.hid ho.read
      have P0_25 := Lib.hid (P0_24.out.later hb)
      have P1_25 := Lib.hid (P1_24.out.later hb)
      have P2_25 := Lib.hid (P2_24.out.later hb)
      have P3_25 := Lib.hid (P3_24.out.later hb)
      have PL_25 := Lib.hid (PL_24.out.later hb)
      have HB25 : Hid (Below wq.heap.size wq u25) := Lib.hid (HB24.out.trans (hb.mono HB24.out.size))
      have HD4 : Apart _ ga := fun k hk => by have := HG4.out k hk; omega
      have hgs25 : ga < u25.heap.size := Nat.lt_of_lt_of_le hgs24 hb.size
      have HR25 := Lib.hid ((hb.block ga (Array.getElem?_eq_some_iff.1 HR24.out).1).trans HR24.out)
      clear ho hb
      go_wp2_with fail
      refine hK.out _ _ (HS.out _ HB25.out) (fun hH25 => ?_)
      clear hK K hH24
      try simp only [Act.put, List.setIfInBounds_toArray, List.set_cons_zero, List.set_cons_succ]
      refine tk (i := 17) rfl ?_
      try simp only [Act.put, List.setIfInBounds_toArray, List.set_cons_zero, List.set_cons_succ]
      refine wpAnyH_ready (rs := [19]) (by kernel_rfl) (by simp) ?_
      refine cons_drop rfl (fun K hK => ?_) AllReadyH.nil
      obtain ⟨y0, y1, y2, y3, y4, y5, z0, z1, z2, z3, z4, z5⟩ := six_cells HR25.out
      go_simp
      with_reducible refine hK.out _ _ (HS.out _ (six_ge HB25.out hgl _ _ _ _ _ _)) (fun hH => ?_)
      clear hK K hH25
      try simp only [Act.put, List.setIfInBounds_toArray, List.set_cons_zero, List.set_cons_succ]
      refine wpAnyH_done (by kernel_rfl) ?_ _
      refine NoPanic.normal ?_
      go_wp2_with fail
      go_meet
      case rel => exact ⟨_, rfl, ⟨_, _, _, _, _, _, six_row HR25.out _ _ _ _ _ _, P0_25.out.six HD0 _ _ _ _ _ _, P1_25.out.six HD1 _ _ _ _ _ _, P2_25.out.six HD2 _ _ _ _ _ _, P3_25.out.six HD3 _ _ _ _ _ _, P4_25.out.six HD4 _ _ _ _ _ _, PL_25.out.six HDL _ _ _ _ _ _⟩, six_ge HB25.out hgl _ _ _ _ _ _⟩
  case rest =>
    obtain ⟨g, rfl, h6, hbx⟩ := hcut
    have H6 := Lib.hid h6
    have HBC : Hid (Below W0.heap.size W0 wc) := Lib.hid (HBQ.out.trans (hbx.mono HBQ.out.size))
    have HRC : Hid (RowAt wc w2.heap.size #[.string nm, .bool b0, .bool b1, .bool b2, .bool b3, .bool b4, .bool b5]) := Lib.hid ((hbx.block _ hzq).trans HRQ.out)
    have HBCq : Hid (wq.heap.size ≤ wc.heap.size) := Lib.hid hbx.size
    clear h6 hbx
    obtain ⟨W1, hW1⟩ : ∃ W, W = wc.alloc (.cells #[.int .u8 1] 5) := ⟨_, rfl⟩
    have HB1 : Hid (Below W0.heap.size W0 W1) := Lib.hid (by rw [hW1]; exact HBC.out.alloc HBC.out.size _)
    have HBc1 : Hid (Below wc.heap.size wc W1) := Lib.hid (by rw [hW1]; exact (Below.refl _ _).alloc (Nat.le_refl _) _)
    have H11 : Hid (BIn W1 (.slice (some ⟨wc.heap.size, 0, none⟩) 1 1) [1]) := Lib.hid (.inr ⟨_, 1, rfl, by simp, by decide, by rw [hW1]; simp, fun j u hu => by
      rcases j with _ | j
      · have hv : Value.int .u8 1 = u := by simpa [bv] using hu
        rw [← hv, hW1]
        show World.cell? _ ⟨wc.heap.size, 0, none⟩ = _
        unfold World.cell?; rw [heap_alloc_new]; rfl
      · simp at hu⟩)
    replace hW1 := Lib.hid hW1
    obtain ⟨a0, -⟩ := EBox.cells (HX.out W1 HB1.out)
    go_upto_region 6 with fail
    go_wp2_with (rw [← hW1.out])
    refine (HUk.out _).mono ?_
    rintro e w5 ⟨xk, rfl, ho, hb⟩
    obtain ⟨Ak, qk, rfl⟩ := ho.read.form
    have HB5 : Hid (Below W0.heap.size W0 w5) := Lib.hid (HB1.out.trans (hb.mono HB1.out.size))
    have HBc5 : Hid (Below wc.heap.size wc w5) := Lib.hid (HBc1.out.trans (hb.mono HBc1.out.size))
    have p0 := H11.out.later hb
    have p1 := ho.read
    obtain ⟨W6, hW6⟩ : ∃ W, W = w5.alloc (.cells #[.slice (some ⟨wc.heap.size, 0, none⟩) 1 1, .slice Ak lk.length qk] 22) := ⟨_, rfl⟩
    have hb6 : Below w5.heap.size w5 W6 := by rw [hW6]; exact (Below.refl _ _).alloc (Nat.le_refl _) _
    have HB6 : Hid (Below W0.heap.size W0 W6) := Lib.hid (HB5.out.trans (hb6.mono HB5.out.size))
    have HBc6 : Hid (Below wc.heap.size wc W6) := Lib.hid (HBc5.out.trans (hb6.mono HBc5.out.size))
    have HC : Hid (Calls Tryz.prog 55 #[.slice (some ⟨w5.heap.size, 0, none⟩) 2 2] W6 fun e w' => ∃ v, e = .returned v ∧ BOwn w' W6.heap.size v (1 :: lk) ∧ Below W6.heap.size W6 w') := Lib.hid (by
      have hp : PIn W6 (some ⟨w5.heap.size, 0, none⟩) 2 [[1], lk] := ⟨by simp, by decide, fun _ => ⟨w5.heap.size, 0, rfl, by rw [hW6]; simp, fun i hi => by
        have h0 : W6.heap[w5.heap.size]? = some (.cells #[.slice (some ⟨wc.heap.size, 0, none⟩) 1 1, .slice Ak lk.length qk] 22 (0, 0)) := by rw [hW6]; exact heap_alloc_new w5 _
        rcases i with _ | i
        · exact ⟨_, by unfold World.cell?; rw [h0]; rfl, p0.later hb6⟩
        · have h1 : i = 0 := by simp at hi; omega
          subst h1
          exact ⟨_, by unfold World.cell?; rw [h0]; rfl, p1.later hb6⟩⟩⟩
      have := concat_any [[1], lk] (some ⟨w5.heap.size, 0, none⟩) 2 W6 hp (by simp; omega) (by simp)
      simpa using this)
    replace hW6 := Lib.hid hW6
    clear p0 p1 ho hb hb6 a0
    go_wp2_with (rw [← hW6.out])
    refine HC.out.mono ?_
    rintro e w7 ⟨o, rfl, ho, hb⟩
    have HO7 := Lib.hid ho
    have HB7 := Lib.hid hb
    obtain ⟨-, r1, r2, r3, r4, r5, r6⟩ := RowAt.cells ((HBc6.out.trans (hb.mono HBc6.out.size)).block _ (Nat.lt_of_lt_of_le hzq HBCq.out) |>.trans HRC.out)
    clear ho hb HC
    go_wp2_with fail
    clear r1 r2 r3 r4 r5 r6
    have HLN := fun j => sel_len [b0, b1, b2, b3, b4, b5] [l0, l1, l2, l3, l4, lv] j
    simp only [List.flatten_cons, List.flatten_nil, List.length_append, List.length_nil] at HLN
    replace HLN := Lib.hid HLN
    generalize hps : [l0, l1, l2, l3, l4, lv] = ps at *
    generalize hbs : [b0, b1, b2, b3, b4, b5] = bs at *
    replace hps := Lib.hid hps
    replace hbs := Lib.hid hbs
    go_loopw [9, 54] (fun o i wr => ∃ (j : Nat), j ≤ 6 ∧ i = .int .i64 j ∧ BOwn wr W6.heap.size o (1 :: (lk ++ sel bs ps j)) ∧ Below W6.heap.size W6 wr) (fun _ i _ => 6 - (intOf i).toNat)
    case atStart => exact ⟨0, by omega, rfl, by simpa [sel] using HO7.out, HB7.out⟩
    case round =>
      obtain ⟨j, hj, rfl, hown, hb⟩ := hrel
      have HO := Lib.hid hown
      have HB := Lib.hid hb
      have HBc := Lib.hid (HBc6.out.trans (hb.mono HBc6.out.size))
      obtain ⟨v0, v1, v2, v3, v4, v5, h6, p0, p1, p2, p3, p4, p5⟩ := H6.out.later HBc.out
      obtain ⟨c0, c1, c2, c3, c4, c5, -⟩ := six_cells h6
      clear h6 hown hb
      have hln := HLN.out j
      have hbz := HB.out.size
      rcases (by omega : j = 0 ∨ j = 1 ∨ j = 2 ∨ j = 3 ∨ j = 4 ∨ j = 5 ∨ j = 6) with rfl | rfl | rfl | rfl | rfl | rfl | rfl
      · have hix := ix0 (.bool b0) (.bool b1) (.bool b2) (.bool b3) (.bool b4) (.bool b5)
        have HSL : Hid (sel bs ps 1 = sel bs ps 0 ++ (if b0 then l0 else [])) := Lib.hid (by rw [← hps.out, ← hbs.out]; simp [sel])
        have hin : BIn wr v0 l0 := by have := p0; rw [← hps.out] at this; exact this
        clear p0 p1 p2 p3 p4 p5
        cases b0
        · go_wp2_with fail
          exact ⟨⟨1, by omega, by go_num, by rw [HSL.out]; simpa using HO.out, HB.out⟩, by simp [intOf]⟩
        · go_wp2_with (at_builtin; refine wpList_append_bytes _ rfl _ _ rfl W6.heap.size _ v0 (1 :: (lk ++ sel bs ps 0)) l0 rfl rfl HO.out hin (by simp only [List.length_cons, List.length_append]; omega) hbz ?_; intro u2 w2' hown2 hg2 hb2)
          have HO2 := Lib.hid hown2
          have HB2 := Lib.hid (HB.out.trans hb2)
          clear hown2 hb2
          go_wp2_with fail
          exact ⟨⟨1, by omega, by go_num, by rw [HSL.out]; simpa using HO2.out, HB2.out⟩, by simp [intOf]⟩
      · have hix := ix1 (.bool b0) (.bool b1) (.bool b2) (.bool b3) (.bool b4) (.bool b5)
        have HSL : Hid (sel bs ps 2 = sel bs ps 1 ++ (if b1 then l1 else [])) := Lib.hid (by rw [← hps.out, ← hbs.out]; simp [sel])
        have hin : BIn wr v1 l1 := by have := p1; rw [← hps.out] at this; exact this
        clear p0 p1 p2 p3 p4 p5
        cases b1
        · go_wp2_with fail
          exact ⟨⟨2, by omega, by go_num, by rw [HSL.out]; simpa using HO.out, HB.out⟩, by simp [intOf]⟩
        · go_wp2_with (at_builtin; refine wpList_append_bytes _ rfl _ _ rfl W6.heap.size _ v1 (1 :: (lk ++ sel bs ps 1)) l1 rfl rfl HO.out hin (by simp only [List.length_cons, List.length_append]; omega) hbz ?_; intro u2 w2' hown2 hg2 hb2)
          have HO2 := Lib.hid hown2
          have HB2 := Lib.hid (HB.out.trans hb2)
          clear hown2 hb2
          go_wp2_with fail
          exact ⟨⟨2, by omega, by go_num, by rw [HSL.out]; simpa using HO2.out, HB2.out⟩, by simp [intOf]⟩
      · have hix := ix2 (.bool b0) (.bool b1) (.bool b2) (.bool b3) (.bool b4) (.bool b5)
        have HSL : Hid (sel bs ps 3 = sel bs ps 2 ++ (if b2 then l2 else [])) := Lib.hid (by rw [← hps.out, ← hbs.out]; simp [sel])
        have hin : BIn wr v2 l2 := by have := p2; rw [← hps.out] at this; exact this
        clear p0 p1 p2 p3 p4 p5
        cases b2
        · go_wp2_with fail
          exact ⟨⟨3, by omega, by go_num, by rw [HSL.out]; simpa using HO.out, HB.out⟩, by simp [intOf]⟩
        · go_wp2_with (at_builtin; refine wpList_append_bytes _ rfl _ _ rfl W6.heap.size _ v2 (1 :: (lk ++ sel bs ps 2)) l2 rfl rfl HO.out hin (by simp only [List.length_cons, List.length_append]; omega) hbz ?_; intro u2 w2' hown2 hg2 hb2)
          have HO2 := Lib.hid hown2
          have HB2 := Lib.hid (HB.out.trans hb2)
          clear hown2 hb2
          go_wp2_with fail
          exact ⟨⟨3, by omega, by go_num, by rw [HSL.out]; simpa using HO2.out, HB2.out⟩, by simp [intOf]⟩
      · have hix := ix3 (.bool b0) (.bool b1) (.bool b2) (.bool b3) (.bool b4) (.bool b5)
        have HSL : Hid (sel bs ps 4 = sel bs ps 3 ++ (if b3 then l3 else [])) := Lib.hid (by rw [← hps.out, ← hbs.out]; simp [sel])
        have hin : BIn wr v3 l3 := by have := p3; rw [← hps.out] at this; exact this
        clear p0 p1 p2 p3 p4 p5
        cases b3
        · go_wp2_with fail
          exact ⟨⟨4, by omega, by go_num, by rw [HSL.out]; simpa using HO.out, HB.out⟩, by simp [intOf]⟩
        · go_wp2_with (at_builtin; refine wpList_append_bytes _ rfl _ _ rfl W6.heap.size _ v3 (1 :: (lk ++ sel bs ps 3)) l3 rfl rfl HO.out hin (by simp only [List.length_cons, List.length_append]; omega) hbz ?_; intro u2 w2' hown2 hg2 hb2)
          have HO2 := Lib.hid hown2
          have HB2 := Lib.hid (HB.out.trans hb2)
          clear hown2 hb2
          go_wp2_with fail
          exact ⟨⟨4, by omega, by go_num, by rw [HSL.out]; simpa using HO2.out, HB2.out⟩, by simp [intOf]⟩
      · have hix := ix4 (.bool b0) (.bool b1) (.bool b2) (.bool b3) (.bool b4) (.bool b5)
        have HSL : Hid (sel bs ps 5 = sel bs ps 4 ++ (if b4 then l4 else [])) := Lib.hid (by rw [← hps.out, ← hbs.out]; simp [sel])
        have hin : BIn wr v4 l4 := by have := p4; rw [← hps.out] at this; exact this
        clear p0 p1 p2 p3 p4 p5
        cases b4
        · go_wp2_with fail
          exact ⟨⟨5, by omega, by go_num, by rw [HSL.out]; simpa using HO.out, HB.out⟩, by simp [intOf]⟩
        · go_wp2_with (at_builtin; refine wpList_append_bytes _ rfl _ _ rfl W6.heap.size _ v4 (1 :: (lk ++ sel bs ps 4)) l4 rfl rfl HO.out hin (by simp only [List.length_cons, List.length_append]; omega) hbz ?_; intro u2 w2' hown2 hg2 hb2)
          have HO2 := Lib.hid hown2
          have HB2 := Lib.hid (HB.out.trans hb2)
          clear hown2 hb2
          go_wp2_with fail
          exact ⟨⟨5, by omega, by go_num, by rw [HSL.out]; simpa using HO2.out, HB2.out⟩, by simp [intOf]⟩
      · have hix := ix5 (.bool b0) (.bool b1) (.bool b2) (.bool b3) (.bool b4) (.bool b5)
        have HSL : Hid (sel bs ps 6 = sel bs ps 5 ++ (if b5 then lv else [])) := Lib.hid (by rw [← hps.out, ← hbs.out]; simp [sel])
        have hin : BIn wr v5 lv := by have := p5; rw [← hps.out] at this; exact this
        clear p0 p1 p2 p3 p4 p5
        cases b5
        · go_wp2_with fail
          exact ⟨⟨6, by omega, by go_num, by rw [HSL.out]; simpa using HO.out, HB.out⟩, by simp [intOf]⟩
        · go_wp2_with (at_builtin; refine wpList_append_bytes _ rfl _ _ rfl W6.heap.size _ v5 (1 :: (lk ++ sel bs ps 5)) lv rfl rfl HO.out hin (by simp only [List.length_cons, List.length_append]; omega) hbz ?_; intro u2 w2' hown2 hg2 hb2)
          have HO2 := Lib.hid hown2
          have HB2 := Lib.hid (HB.out.trans hb2)
          clear hown2 hb2
          go_wp2_with fail
          exact ⟨⟨6, by omega, by go_num, by rw [HSL.out]; simpa using HO2.out, HB2.out⟩, by simp [intOf]⟩
      · go_wp2_with fail
        exact bodyPost_ret (v := .tuple #[u9, .bool true]) (by simp [results, Tryz.results14, go_sem]) rfl ⟨_, rfl, by have hx := HO.out.base (base' := w.heap.size) (by have := HB0.out.size; have := HB6.out.size; omega); rw [← hps.out, ← hbs.out] at hx; exact hx, HB0.out.trans ((HB6.out.trans (HB.out.mono HB6.out.size)).mono HB0.out.size)⟩
end Bt
end Go.Proofs.YtcbddebmmaflgaaGreatDoor
