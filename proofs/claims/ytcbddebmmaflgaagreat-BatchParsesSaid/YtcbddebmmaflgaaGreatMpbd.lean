/- The reference's Read of an event: an event. -/
import Derived.Test.YtcbddebmmaflgaaGreatMpbc
namespace Go.Proofs.YtcbddebmmaflgaaGreat
open Go.RowKit
set_option linter.unusedVariables false
set_option linter.unusedSimpArgs false
namespace Rd
open _root_.Go.Proofs.YtcbddebmmaflgaaGreat.Nm (ret_int ret_bool)
open Vt (VT Rep BoxAt below_drew put5)
open Ev (EV EBox ERep fieldsOf FieldsOk zeroT evCells vCells)
open Cm (OnlyAt has_field)
open Cn (BRd)
attribute [local go_sem] Vt.run_store_float

/-- The event's cells after j fields. -/
def ecs2 (q : FR) (k j : Nat) (v0 v1 v2 v3 v4 : Value) : Array Value := #[.int .i64 (k : Nat), .int .u64 ((if 0 < j then q.i else 0 : Nat) : Int), .int .i64 ((if 1 < j then min q.n 1099511627776 else 0 : Nat) : Int), .int .u64 ((if 2 < j then q.a else 0 : Nat) : Int), .string (if 3 < j then q.s else ⟨#[]⟩), .string (if 4 < j then q.t else ⟨#[]⟩), v0, v1, v2, v3, v4]
/-- The loop over an event's fields. -/
def EInv2 (q : FR) (sq : St) (b5 : Bool) (k B c0 ge : Nat) (w : World) (okv iv : Value) (wr : World) : Prop :=
  ∃ (j : Nat) (okb : Bool) (vk vn : Int) (vf : Nat) (vs : ByteArray) (A : Option Addr) (m c : Nat) (vj : Value) (sx : St) (tt : VT), okv = .bool okb ∧ iv = .int .i64 (j : Nat) ∧ j ≤ 6 ∧ QB wr c0 vj sx.2 ∧ QB wr (c0 + 1) (.slice none 0 0) false ∧ EBox wr (c0 + 1 + 1) #[.int .i64 0, .int .u64 0, .int .i64 0, .int .u64 0, .string ⟨#[]⟩, .string ⟨#[]⟩, .int .i64 0, .int .i64 0, .float .f64 0, .string ⟨#[]⟩, .slice none 0 0] ∧
    EBox wr ge (ecs2 q k j (.int .i64 vk) (.int .i64 vn) (.float .f64 vf) (.string vs) (.slice A m c)) ∧ RP wr B vj sx.1 ∧ Below c0 w wr ∧
    Rep wr (ge + 1) wr.heap.size tt (.agg #[.int .i64 vk, .int .i64 vn, .float .f64 vf, .string vs, .slice A m c]) ∧
    (j ≤ 5 → sx = est q sq j ∧ okb = true ∧ tt = zeroT) ∧ (j = 6 → (okb = true → oval b5 q.s4 = some (sx, tt)) ∧ (okb = false → oval b5 q.s4 = none))
theorem min40 (xn yn : Nat) (h : yn = min xn 1099511627776) : (if (1099511627776 : Int) < (xn : Int) then (1099511627776 : Int) else (xn : Int)) = (yn : Int) ∧ (if (xn : Int) < (1099511627776 : Int) then (xn : Int) else (1099511627776 : Int)) = (yn : Int) ∧ IntKind.i64.wrap (yn : Int) = (yn : Int) := by
  refine ⟨by split <;> omega, by split <;> omega, ?_⟩
  rw [IntKind.wrap_i64]; omega
theorem ebox_at {w : World} {g o : Nat} {cs : Array Value} (h : EBox w g cs) (v : Value) : EBox (w.setCell ⟨g, o, none⟩ v) g (cs.setIfInBounds o v) := by
  unfold EBox at h ⊢; simp [World.setCell, Array.getElem?_modify, h]
theorem ebox_old {w : World} {g : Nat} {cs : Array Value} (h : EBox w g cs) (o : Obj) : EBox (w.alloc o) g cs := (heap_alloc_old _ _ h.lt).trans h
theorem qb_old {w : World} {g : Nat} {v : Value} {b : Bool} (h : QB w g v b) (o : Obj) : QB (w.alloc o) g v b := (heap_alloc_old _ _ h.lt).trans h
theorem erep_fin {W : World} {b lo lo' hi : Nat} {e : EV} {x x0 x1 d0 d1 d2 d3 d4 d5 d6 d7 d8 d9 d10 : Value} (h : ERep W lo hi e x ∧ hi ≤ W.heap.size) (hb : b + 1 < lo) (hlo : lo' ≤ lo) :
    ERep (set11 ((W.setCell ⟨b, 0, none⟩ x0).setCell ⟨b, 1, none⟩ x1) (b + 1) d0 d1 d2 d3 d4 d5 d6 d7 d8 d9 d10).drew lo' (set11 ((W.setCell ⟨b, 0, none⟩ x0).setCell ⟨b, 1, none⟩ x1) (b + 1) d0 d1 d2 d3 d4 d5 d6 d7 d8 d9 d10).drew.heap.size e x := by
  obtain ⟨⟨hf, vk, vn, vf, vs, A, m, c, heq, hrep⟩, hz⟩ := h
  have hsz : (set11 ((W.setCell ⟨b, 0, none⟩ x0).setCell ⟨b, 1, none⟩ x1) (b + 1) d0 d1 d2 d3 d4 d5 d6 d7 d8 d9 d10).heap.size = W.heap.size := by rw [set11_size]; simp [World.setCell]
  have ho : ∀ q, q ≠ b → q ≠ b + 1 → (set11 ((W.setCell ⟨b, 0, none⟩ x0).setCell ⟨b, 1, none⟩ x1) (b + 1) d0 d1 d2 d3 d4 d5 d6 d7 d8 d9 d10).heap[q]? = W.heap[q]? := fun q h1 h2 =>
    (set11_other _ (b + 1) q d0 d1 d2 d3 d4 d5 d6 d7 d8 d9 d10 h2).trans ((Below.heap_setCell _ ⟨b, 1, none⟩ _ q (by simpa using h1)).trans (Below.heap_setCell _ ⟨b, 0, none⟩ _ q (by simpa using h1)))
  generalize set11 ((W.setCell ⟨b, 0, none⟩ x0).setCell ⟨b, 1, none⟩ x1) (b + 1) d0 d1 d2 d3 d4 d5 d6 d7 d8 d9 d10 = X at *
  refine ⟨hf, vk, vn, vf, vs, A, m, c, heq, ?_⟩
  have hk := hrep.keep (w' := X.drew) fun q o h1 h2 => World.cell?_of_block (a := ⟨q, o, none⟩) (w' := X.drew) (ho q (by omega) (by omega))
  exact hk.more hlo (show hi ≤ X.heap.size by omega)
/-- An event whose number is bounded elsewhere. -/
def mkE2 (k : Nat) (i n a : Nat) (s t : ByteArray) (v : VT) : EV := ⟨(k : Int), i, ((min n 1099511627776 : Nat) : Int), a, s, t, v⟩
theorem valid_n (k i n a : Nat) (s t : ByteArray) (v : VT) : (mkE2 k i n a s t v).valid = (mkE k i n a s t v).valid ∧ ((mkE k i n a s t v).valid = true → mkE2 k i n a s t v = mkE k i n a s t v) := by
  have h1 : decide ((1 : Int) ≤ ((min n 1099511627776 : Nat) : Int) ∧ ((min n 1099511627776 : Nat) : Int) ≤ 2147483647) = decide ((1 : Int) ≤ ((min n 2147483648 : Nat) : Int) ∧ ((min n 2147483648 : Nat) : Int) ≤ 2147483647) := by
    rw [decide_eq_decide]; omega
  have h2 : (((min n 1099511627776 : Nat) : Int) == 0) = (((min n 2147483648 : Nat) : Int) == 0) := by
    rw [Bool.eq_iff_iff, beq_iff_eq, beq_iff_eq]; omega
  constructor
  · unfold EV.valid Ev.goodL mkE2 mkE
    simp only
    rw [h1, h2]
  · intro h
    have := (Vf.ve_of h).n2
    have : ((min n 2147483648 : Nat) : Int) ≤ 2147483647 := this
    unfold mkE2 mkE
    congr 2
    omega
set_option maxRecDepth 100000 in
set_option maxHeartbeats 16000000 in
theorem re_good (s : St) (x : Value) (w : World) (B : Nat) (hB : B ≤ w.heap.size) (h : RV w B s x) (hq : (rTake s 1).2 = [1] ∧ (rUint (rTake s 1).1).1.2 = false ∧ 1 ≤ (rUint (rTake s 1).1).2 ∧ (rUint (rTake s 1).1).2 ≤ 11) (b0 b1 b2 b3 b4 b5 : Bool)
    (hf0 : ((fieldsOf (rUint (rTake s 1).1).2).contains 0) = b0) (hf1 : ((fieldsOf (rUint (rTake s 1).1).2).contains 1) = b1) (hf2 : ((fieldsOf (rUint (rTake s 1).1).2).contains 2) = b2) (hf3 : ((fieldsOf (rUint (rTake s 1).1).2).contains 3) = b3) (hf4 : ((fieldsOf (rUint (rTake s 1).1).2).contains 4) = b4) (hf5 : ((fieldsOf (rUint (rTake s 1).1).2).contains 5) = b5)
    (hpe : pe s = pf (rUint (rTake s 1).1).2 b0 b1 b2 b3 b4 b5 (rUint (rTake s 1).1).1) :
    Calls Tryz.prog 22 #[x] w (RERead s B w) := by
  have HPE := Lib.hid hpe
  clear hpe
  have HH0 : Hid (∀ W, Calls Tryz.prog 56 #[.int .i64 ((rUint (rTake s 1).1).2 : Nat), .int .u8 105] W fun r w' => r = .returned (.bool b0) ∧ Below W.heap.size W w') := Lib.hid fun W => by rw [← hf0]; exact has_field _ hq.2.2.1 hq.2.2.2 105 0 (by simp) W
  have HH1 : Hid (∀ W, Calls Tryz.prog 56 #[.int .i64 ((rUint (rTake s 1).1).2 : Nat), .int .u8 110] W fun r w' => r = .returned (.bool b1) ∧ Below W.heap.size W w') := Lib.hid fun W => by rw [← hf1]; exact has_field _ hq.2.2.1 hq.2.2.2 110 1 (by simp) W
  have HH2 : Hid (∀ W, Calls Tryz.prog 56 #[.int .i64 ((rUint (rTake s 1).1).2 : Nat), .int .u8 97] W fun r w' => r = .returned (.bool b2) ∧ Below W.heap.size W w') := Lib.hid fun W => by rw [← hf2]; exact has_field _ hq.2.2.1 hq.2.2.2 97 2 (by simp) W
  have HH3 : Hid (∀ W, Calls Tryz.prog 56 #[.int .i64 ((rUint (rTake s 1).1).2 : Nat), .int .u8 115] W fun r w' => r = .returned (.bool b3) ∧ Below W.heap.size W w') := Lib.hid fun W => by rw [← hf3]; exact has_field _ hq.2.2.1 hq.2.2.2 115 3 (by simp) W
  have HH4 : Hid (∀ W, Calls Tryz.prog 56 #[.int .i64 ((rUint (rTake s 1).1).2 : Nat), .int .u8 116] W fun r w' => r = .returned (.bool b4) ∧ Below W.heap.size W w') := Lib.hid fun W => by rw [← hf4]; exact has_field _ hq.2.2.1 hq.2.2.2 116 4 (by simp) W
  have HH5 : Hid (∀ W, Calls Tryz.prog 56 #[.int .i64 ((rUint (rTake s 1).1).2 : Nat), .int .u8 118] W fun r w' => r = .returned (.bool b5) ∧ Below W.heap.size W w') := Lib.hid fun W => by rw [← hf5]; exact has_field _ hq.2.2.1 hq.2.2.2 118 5 (by simp) W
  have HFJ := Lib.hid (And.intro hf0 (And.intro hf1 (And.intro hf2 (And.intro hf3 (And.intro hf4 hf5)))))
  clear hf0 hf1 hf2 hf3 hf4 hf5
  have HQQ := Lib.hid hq
  clear hq
  obtain ⟨⟨v, rfl, hv, hf⟩, hb, hl⟩ := h
  obtain ⟨l, bad⟩ := s
  simp only at *
  obtain ⟨W0, hW0, hq, hqr, hx, hb0, hz0⟩ := ev_boxes w v bad
  have hp0 : RP W0 B v l := RP.below ⟨hv, hf, hb, hl⟩ hb0 hB
  have HT : Hid (Calls Tryz.prog 55 #[.agg #[v, .bool bad], .int .i64 1] W0 fun r w' => ∃ y v2, r = .returned (.tuple #[y, v2]) ∧ RV w' B (rTake (l, bad) 1).1 y ∧ BRd w' v2 (rTake (l, bad) 1).2 ∧ Far v2 B ∧ Below W0.heap.size W0 w') := Lib.hid (rrtake_any (l, bad) 1 (.agg #[v, .bool bad]) W0 B (by omega) ⟨⟨v, rfl, hp0.1, hf⟩, hb, hl⟩)
  have HBY := Lib.hid (rTake_byt (s := (l, bad)) hb hl 1)
  have hl1 := rTake_len (l, bad) 1
  have HTF : Hid ((rTake (l, bad) 1).1.2 = false → (rTake (l, bad) 1).2.length = 1) := Lib.hid fun h => (rTake_form h).2.2
  have HQ := Lib.hid hq
  have HQR := Lib.hid hqr
  have HX := Lib.hid hx
  have HB0 := Lib.hid hb0
  have HST := Lib.hid hp0.store
  clear hv hf hb hl hx hq hqr hb0 hp0
  have HBAD := Lib.hid (show (rTake (l, bad) 1).1.2 = false from by have h := (HQQ.out).2.1; exact by cases hb1 : (rTake (l, bad) 1).1.2 with | false => rfl | true => exact absurd h (by unfold rUint nxt; rw [hb1]; simp))
  have HU := Lib.hid fun (W : World) (x : Value) (hW : B ≤ W.heap.size) (hx : RV W B (rTake (l, bad) 1).1 x) => rruint_any (rTake (l, bad) 1).1 x W B hW hx
  generalize rTake (l, bad) 1 = a at *
  obtain ⟨⟨l1, bad1⟩, lb⟩ := a
  simp only at *
  have HBU := Lib.hid (rUint_byt (s := (l1, bad1)) HBY.out.1 HBY.out.2)
  generalize rUint (l1, bad1) = q at *
  obtain ⟨⟨l2, bad2⟩, k⟩ := q
  simp only at *
  skip
  obtain rfl : lb = [1] := HQQ.out.1
  obtain rfl : bad2 = false := HQQ.out.2.1
  have h1k : 1 ≤ k := HQQ.out.2.2.1
  have hk11 : k ≤ 11 := HQQ.out.2.2.2
  obtain rfl : bad1 = false := HBAD.out
  have g1 : decide ((k : Int) < 1) = false := decide_eq_false (by omega)
  have g2 : decide ((11 : Int) < (k : Int)) = false := decide_eq_false (by omega)
  have g3 : decide ((k : Int) > 11) = false := decide_eq_false (by omega)
  have hwk : IntKind.i64.wrap (k : Int) = (k : Int) := by rw [IntKind.wrap_i64]; omega
  have HFB := Lib.hid (fr_bounds b0 b1 b2 b3 b4 (l2, false) HBU.out.1 HBU.out.2)
  obtain ⟨q, hq⟩ : ∃ q, q = fr b0 b1 b2 b3 b4 (l2, false) := ⟨_, rfl⟩
  obtain ⟨c0, hc0⟩ : ∃ c0, c0 = w.heap.size := ⟨_, rfl⟩
  rw [← hc0] at HQ HQR HX HB0 hz0 hB
  obtain ⟨a0, a1, af0, af1⟩ := HQ.out.cells
  replace hW0 := Lib.hid hW0
  have HC0 := Lib.hid hc0
  clear hc0
  go_enter Tryz.func22, Tryz.ntmps22
  go_upto_region 1 with fail
  rw [← hW0.out, ← HC0.out]
  go_wp2_with fail
  refine HT.out.mono ?_
  rintro e w1 ⟨y, v2, rfl, ⟨⟨v1, rfl, hv1, hf1⟩, hb1, hl1w⟩, hv2, hf2, hbl⟩
  simp only at hv1 hf1 hb1 hl1w
  have hp1 : RP w1 B v1 l1 := ⟨hv1, hf1, hb1, hl1w⟩
  have hst1 := hp1.store
  clear hv1 hf1 hb1 hl1w a0 a1 af0 af1
  have hzw := hbl.size
  have hq1 := HQ.out.later hbl (by omega)
  have hqr1 := HQR.out.later hbl (by omega)
  have hx1 := HX.out.later hbl (show c0 + 1 + 1 < W0.heap.size by omega)
  obtain ⟨W2, hW2⟩ : ∃ W2, W2 = (w1.setCell ⟨c0, 0, none⟩ v1).setCell ⟨c0, 1, none⟩ (.bool false) := ⟨_, rfl⟩
  have hs2 : Below c0 w1 W2 := by rw [hW2]; exact below_set2 (below_set2 (Below.refl _ _) (Nat.le_refl _) _ _) (Nat.le_refl _) _ _
  have hz2 : W2.heap.size = w1.heap.size := by rw [hW2]; simp [World.setCell]
  have HQ2 : Hid (QB W2 c0 v1 false) := Lib.hid (by rw [hW2]; exact qb_set hq1)
  have HQR2 : Hid (QB W2 (c0 + 1) (.slice none 0 0) false) := Lib.hid (by rw [hW2]; exact qb_far (qb_far hqr1 (by omega) _) (by omega) _)
  have HX2 : Hid (EBox W2 (c0 + 1 + 1) #[.int .i64 0, .int .u64 0, .int .i64 0, .int .u64 0, .string ⟨#[]⟩, .string ⟨#[]⟩, .int .i64 0, .int .i64 0, .float .f64 0, .string ⟨#[]⟩, .slice none 0 0]) := Lib.hid (by rw [hW2]; exact ebox_far (ebox_far hx1 (by omega) _) (by omega) _)
  have HP2 := Lib.hid (hp1.below hs2 hB)
  have HB2 := Lib.hid (HB0.out.trans ((hbl.mono (by omega)).trans hs2))
  have HV2 : Hid (BRd W2 v2 [1]) := Lib.hid (brd_keep hv2 hs2.size fun q hq => hs2.block q (by have := hf2 q hq; omega))
  obtain ⟨a0, a1, af0, af1⟩ := hq1.cells
  have hlt1 : c0 < w1.heap.size := by omega
  have hlt2 : c0 + 1 + 1 < W2.heap.size := by omega
  clear hs2 hp1 hqr1 hx1 hbl hq1 hv2 hf2
  replace hW2 := Lib.hid hW2
  go_upto_region 2 with fail
  rw [← hW2.out]
  clear a0 a1 af0 af1 hst1 hlt1 hzw
  have hst := HP2.out.store
  obtain ⟨a0, a1, af0, af1⟩ := HQ2.out.cells
  obtain ⟨q0, q1, qf0, qf1⟩ := HQR2.out.cells
  obtain ⟨r0, r1, r2, r3, r4, r5, r6, r7, r8, r9, r10⟩ := HX2.out.cells
  obtain ⟨f0, f1, f2, f3, f4, f5, f6, f7, f8, f9, f10⟩ := ebox_frees HX2.out
  rcases HV2.out with ⟨-, h2⟩ | ⟨b, off, cap, h1, h2, h3, h4, h5⟩
  · cases h2
  · subst h1
    have e1 := h5 0 (by simp)
    simp only [Nat.add_zero, List.getElem_cons_zero] at e1
    clear h5 h2 h3
    have hk0 : 0 < 1 := by decide
    go_wp2_with fail
    refine (HU.out W2 _ (by omega) ⟨⟨v1, rfl, HP2.out.1, HP2.out.2.1⟩, HP2.out.2.2⟩).mono ?_
    rintro e w3 ⟨y, rfl, ⟨⟨v3, rfl, hv3, hf3⟩, hb3, hl3⟩, hbl3⟩
    simp only at hv3 hf3 hb3 hl3
    have hp3 : RP w3 B v3 l2 := ⟨hv3, hf3, hb3, hl3⟩
    have hst3 := hp3.store
    have hz3 := hbl3.size
    clear a0 a1 af0 af1 q0 q1 qf0 qf1 r0 r1 r2 r3 r4 r5 r6 r7 r8 r9 r10 f0 f1 f2 f3 f4 f5 f6 f7 f8 f9 f10 hv3 hf3 hb3 hl3
    have hq3 := HQ2.out.later hbl3 (by omega)
    have hqr3 := HQR2.out.later hbl3 (by omega)
    have hx3 := HX2.out.later hbl3 hlt2
    obtain ⟨W3, hW3⟩ : ∃ W3, W3 = (w3.setCell ⟨c0, 0, none⟩ v3).setCell ⟨c0, 1, none⟩ (.bool false) := ⟨_, rfl⟩
    have hs3 : Below c0 w3 W3 := by rw [hW3]; exact below_set2 (below_set2 (Below.refl _ _) (Nat.le_refl _) _ _) (Nat.le_refl _) _ _
    have HQ3 : Hid (QB W3 c0 v3 false) := Lib.hid (by rw [hW3]; exact qb_set hq3)
    have HQR3 : Hid (QB W3 (c0 + 1) (.slice none 0 0) false) := Lib.hid (by rw [hW3]; exact qb_far (qb_far hqr3 (by omega) _) (by omega) _)
    have HX3 : Hid (EBox W3 (c0 + 1 + 1) #[.int .i64 0, .int .u64 0, .int .i64 0, .int .u64 0, .string ⟨#[]⟩, .string ⟨#[]⟩, .int .i64 0, .int .i64 0, .float .f64 0, .string ⟨#[]⟩, .slice none 0 0]) := Lib.hid (by rw [hW3]; exact ebox_far (ebox_far hx3 (by omega) _) (by omega) _)
    have HP3 := Lib.hid (hp3.below hs3 hB)
    have HB3 := Lib.hid (HB2.out.trans ((hbl3.mono (by omega)).trans hs3))
    obtain ⟨a0, a1, af0, af1⟩ := hq3.cells
    have hlt3 : c0 < w3.heap.size := by omega
    have hlt4 : c0 + 1 + 1 < W3.heap.size := HX3.out.lt
    clear hs3 hp3 hqr3 hx3 hbl3 hq3
    replace hW3 := Lib.hid hW3
    go_upto_region 5 with fail
    rw [← hW3.out]
    clear a0 a1 af0 af1 hst3 hlt3 hz3 hst
    have hst := HP3.out.store
    obtain ⟨a0, a1, af0, af1⟩ := HQ3.out.cells
    obtain ⟨q0, q1, qf0, qf1⟩ := HQR3.out.cells
    obtain ⟨r0, r1, r2, r3, r4, r5, r6, r7, r8, r9, r10⟩ := HX3.out.cells
    obtain ⟨f0, f1, f2, f3, f4, f5, f6, f7, f8, f9, f10⟩ := ebox_frees HX3.out
    obtain ⟨ge, hge⟩ : ∃ ge, ge = W3.heap.size := ⟨_, rfl⟩
    obtain ⟨W4, hW4⟩ : ∃ W4, W4 = W3.alloc (.cells #[.int .i64 (k : Int), .int .u64 0, .int .i64 0, .int .u64 0, .string ⟨#[]⟩, .string ⟨#[]⟩, .int .i64 0, .int .i64 0, .float .f64 0, .string ⟨#[]⟩, .slice none 0 0] 44) := ⟨_, rfl⟩
    have hb4 : Below W3.heap.size W3 W4 := by rw [hW4]; exact (Below.refl _ _).alloc (Nat.le_refl _) _
    have hE4 : EBox W4 ge #[.int .i64 (k : Int), .int .u64 0, .int .i64 0, .int .u64 0, .string ⟨#[]⟩, .string ⟨#[]⟩, .int .i64 0, .int .i64 0, .float .f64 0, .string ⟨#[]⟩, .slice none 0 0] := by rw [hW4, hge]; exact heap_alloc_new _ _
    have hstart : EInv2 q (l2, false) b5 k B c0 ge w (.bool true) (.int .i64 0) W4 := ⟨0, true, 0, 0, 0, ⟨#[]⟩, none, 0, 0, v3, (l2, false), zeroT, rfl, rfl, by decide, HQ3.out.later hb4 (by omega), HQR3.out.later hb4 (by omega), HX3.out.later hb4 hlt4, hE4, HP3.out.below (C := W3.heap.size) hb4 (by omega), HB3.out.trans (hb4.mono (by omega)), rep_leaf ⟨by decide, by decide, by decide, by decide, by decide, by decide, by decide⟩, fun _ => ⟨rfl, rfl, rfl⟩, fun h => absurd h (by decide)⟩
    have hgc : c0 + 1 + 1 < ge := by omega
    have HSS := Lib.hid hstart
    clear hstart hb4 hE4
    replace hW4 := Lib.hid hW4
    have HGE := Lib.hid hge
    clear hge
    go_upto_region 8 with fail
    rw [← hW4.out, ← HGE.out]
    go_wp2_with fail
    clear a0 a1 af0 af1 q0 q1 qf0 qf1 r0 r1 r2 r3 r4 r5 r6 r7 r8 r9 r10 f0 f1 f2 f3 f4 f5 f6 f7 f8 f9 f10 hst
    go_loopw [8, 9] (EInv2 q (l2, false) b5 k B c0 ge w) (fun _ iv _ => 6 - (intOf iv).toNat)
    case atStart => exact HSS.out
    case round =>
      clear HQ3 HQR3 HX3 HP3 HB3 HSS HQ2 HQR2 HX2 HP2 HB2 HV2
      obtain ⟨j, okb, vk, vn, vf, vs, A, m, c, vj, sx, tt, rfl, rfl, hj, hqj, hqr, hx, he, hp, hbw, hrep, hT, hE⟩ := hrel
      have HQr := Lib.hid hqj; have HQRr := Lib.hid hqr; have HXr := Lib.hid hx; have HEr := Lib.hid he; have HPr := Lib.hid hp; have HBr := Lib.hid hbw; have HREP := Lib.hid hrep
      have hlg : ge < wr.heap.size := he.lt
      have hBr : B ≤ wr.heap.size := by omega
      clear hqj hqr hx he hp hbw hrep
      rcases (by omega : j = 0 ∨ j = 1 ∨ j = 2 ∨ j = 3 ∨ j = 4 ∨ j = 5 ∨ j = 6) with rfl | rfl | rfl | rfl | rfl | rfl | rfl
      · have hch : ((((⟨#[105, 110, 97, 115, 116, 118]⟩ : ByteArray)[0]'(by decide)).toNat : Nat) : Int) = 105 := rfl
        obtain ⟨hsx, hok, htt⟩ := hT (by decide)
        subst hok
        clear hE hT
        obtain ⟨e0, -⟩ := HEr.out.cells
        have HQE := Lib.hid hq; have HSX := Lib.hid hsx; have HTT := Lib.hid htt
        clear hq hsx htt
        go_wp2_with fail
        refine (HH0.out wr).mono ?_
        rintro x6 w6 ⟨rfl, hb6⟩
        have hz6 := hb6.size
        have HQ6 := Lib.hid (HQr.out.later hb6 HQr.out.lt)
        have HQR6 := Lib.hid (HQRr.out.later hb6 HQRr.out.lt)
        have HX6 := Lib.hid (HXr.out.later hb6 HXr.out.lt)
        have HE6 := Lib.hid (HEr.out.later hb6 HEr.out.lt)
        have HP6 := Lib.hid (HPr.out.below hb6 hBr)
        have HB6 := Lib.hid (HBr.out.trans (hb6.mono (by omega)))
        clear hb6 e0
        cases hbb : b0 with
        | false =>
          go_wp2_with fail
          refine ⟨⟨1, true, vk, vn, vf, vs, A, m, c, vj, sx, tt, rfl, by go_num, by decide, HQ6.out, HQR6.out, HX6.out, ?_, HP6.out, HB6.out, rep_zero HTT.out HREP.out w6, fun _ => ⟨?_, rfl, HTT.out⟩, fun h => absurd h (by decide)⟩, by simp [intOf]⟩
          · have := HE6.out
            rw [HQE.out, hbb] at this ⊢
            exact this
          · rw [HSX.out, HQE.out, hbb]; rfl
        | true =>
          obtain ⟨a0, a1, af0, af1⟩ := HQ6.out.cells
          have HC := Lib.hid (rruint_any sx (.agg #[vj, .bool sx.2]) w6 B (by omega) ⟨⟨vj, rfl, HP6.out.1, HP6.out.2.1⟩, HP6.out.2.2⟩)
          go_wp2_with fail
          refine HC.out.mono ?_
          rintro x7 w7 ⟨y, rfl, ⟨⟨v7, rfl, hv7, hf7⟩, hb7, hl7⟩, hbl7⟩
          have hp7 : RP w7 B v7 (rUint sx).1.1 := ⟨hv7, hf7, hb7, hl7⟩
          have hst7 := hp7.store
          have hz7 := hbl7.size
          clear hv7 hf7 hb7 hl7 a0 a1 af0 af1
          have hq7 := HQ6.out.later hbl7 HQ6.out.lt
          have hqr7 := HQR6.out.later hbl7 HQR6.out.lt
          have hx7 := HX6.out.later hbl7 HX6.out.lt
          have he7 := HE6.out.later hbl7 HE6.out.lt
          have hbw7 := HB6.out.trans (hbl7.mono (by omega))
          obtain ⟨a0, a1, af0, af1⟩ := hq7.cells
          have hltc : c0 < w7.heap.size := by omega
          have hltg : ge < w7.heap.size := by omega
          obtain ⟨d0, d1, d2, d3, d4, d5, d6, d7, d8, d9, d10⟩ := he7.cells
          have fre := ebox_free he7 1
          have HQ7 := Lib.hid hq7; have HQR7 := Lib.hid hqr7; have HX7 := Lib.hid hx7; have HE7 := Lib.hid he7; have HP7 := Lib.hid hp7; have HB7 := Lib.hid hbw7
          have hn1 : ¬ (ge = c0) := by omega
          have hn2 : ¬ (c0 = ge) := by omega
          clear hq7 hqr7 hx7 he7 hp7 hbw7 hbl7
          obtain ⟨W8, hW8⟩ : ∃ W8, W8 = ((w7.setCell ⟨c0, 0, none⟩ v7).setCell ⟨c0, 1, none⟩ (.bool (rUint sx).1.2)).setCell ⟨ge, 1, none⟩ (.int .u64 ((rUint sx).2 : Nat)) := ⟨_, rfl⟩
          have HQ8 : Hid (QB W8 c0 v7 (rUint sx).1.2) := Lib.hid (by rw [hW8]; exact qb_far (qb_set HQ7.out) hn2 _)
          have HQR8 : Hid (QB W8 (c0 + 1) (.slice none 0 0) false) := Lib.hid (by rw [hW8]; exact qb_far (qb_far (qb_far HQR7.out (by omega) _) (by omega) _) (by omega) _)
          have HX8 : Hid (EBox W8 (c0 + 1 + 1) #[.int .i64 0, .int .u64 0, .int .i64 0, .int .u64 0, .string ⟨#[]⟩, .string ⟨#[]⟩, .int .i64 0, .int .i64 0, .float .f64 0, .string ⟨#[]⟩, .slice none 0 0]) := Lib.hid (by rw [hW8]; exact ebox_far (ebox_far (ebox_far HX7.out (by omega) _) (by omega) _) (by omega) _)
          have HE8 := Lib.hid (show EBox W8 ge _ from by rw [hW8]; exact ebox_at (o := 1) (ebox_far (b := c0) (o := 1) (ebox_far (b := c0) (o := 0) HE7.out hn1 v7) hn1 (.bool (rUint sx).1.2)) (.int .u64 ((rUint sx).2 : Nat)))
          have hs8 : Below c0 w7 W8 := by rw [hW8]; exact below_set2 (below_set2 (below_set2 (Below.refl c0 _) (Nat.le_refl _) _ _) (Nat.le_refl _) _ _) (by omega) _ _
          have HP8 := Lib.hid (HP7.out.below hs8 hB)
          have HB8 := Lib.hid (HB7.out.trans hs8)
          clear hs8
          replace hW8 := Lib.hid hW8
          go_upto_region 11 with fail
          rw [← hW8.out]
          clear d0 d1 d2 d3 d4 d5 d6 d7 d8 d9 d10 fre hltg hltc a0 a1 af0 af1
          go_wp2_with fail
          refine ⟨⟨1, true, vk, vn, vf, vs, A, m, c, v7, (rUint sx).1, tt, rfl, by go_num, by decide, HQ8.out, HQR8.out, HX8.out, ?_, HP8.out, HB8.out, rep_zero HTT.out HREP.out _, fun _ => ⟨?_, rfl, HTT.out⟩, fun h => absurd h (by decide)⟩, by simp [intOf]⟩
          · have := HE8.out
            rw [HQE.out, hbb, HSX.out, HQE.out, hbb] at this
            rw [HQE.out, hbb]
            exact this
          · rw [HSX.out, HQE.out, hbb]; rfl
      · have hch : ((((⟨#[105, 110, 97, 115, 116, 118]⟩ : ByteArray)[1]'(by decide)).toNat : Nat) : Int) = 110 := rfl
        obtain ⟨hsx, hok, htt⟩ := hT (by decide)
        subst hok
        clear hE hT
        obtain ⟨e0, -⟩ := HEr.out.cells
        have HQE := Lib.hid hq; have HSX := Lib.hid hsx; have HTT := Lib.hid htt
        clear hq hsx htt
        go_wp2_with fail
        refine (HH1.out wr).mono ?_
        rintro x6 w6 ⟨rfl, hb6⟩
        have hz6 := hb6.size
        have HQ6 := Lib.hid (HQr.out.later hb6 HQr.out.lt)
        have HQR6 := Lib.hid (HQRr.out.later hb6 HQRr.out.lt)
        have HX6 := Lib.hid (HXr.out.later hb6 HXr.out.lt)
        have HE6 := Lib.hid (HEr.out.later hb6 HEr.out.lt)
        have HP6 := Lib.hid (HPr.out.below hb6 hBr)
        have HB6 := Lib.hid (HBr.out.trans (hb6.mono (by omega)))
        clear hb6 e0
        cases hbb : b1 with
        | false =>
          go_wp2_with fail
          refine ⟨⟨2, true, vk, vn, vf, vs, A, m, c, vj, sx, tt, rfl, by go_num, by decide, HQ6.out, HQR6.out, HX6.out, ?_, HP6.out, HB6.out, rep_zero HTT.out HREP.out w6, fun _ => ⟨?_, rfl, HTT.out⟩, fun h => absurd h (by decide)⟩, by simp [intOf]⟩
          · have := HE6.out
            rw [HQE.out, hbb] at this ⊢
            exact this
          · rw [HSX.out, HQE.out, hbb]; rfl
        | true =>
          obtain ⟨a0, a1, af0, af1⟩ := HQ6.out.cells
          have HC := Lib.hid (rruint_any sx (.agg #[vj, .bool sx.2]) w6 B (by omega) ⟨⟨vj, rfl, HP6.out.1, HP6.out.2.1⟩, HP6.out.2.2⟩)
          go_wp2_with fail
          refine HC.out.mono ?_
          rintro x7 w7 ⟨y, rfl, ⟨⟨v7, rfl, hv7, hf7⟩, hb7, hl7⟩, hbl7⟩
          have hp7 : RP w7 B v7 (rUint sx).1.1 := ⟨hv7, hf7, hb7, hl7⟩
          have hst7 := hp7.store
          have hz7 := hbl7.size
          clear hv7 hf7 hb7 hl7 a0 a1 af0 af1
          have hq7 := HQ6.out.later hbl7 HQ6.out.lt
          have hqr7 := HQR6.out.later hbl7 HQR6.out.lt
          have hx7 := HX6.out.later hbl7 HX6.out.lt
          have he7 := HE6.out.later hbl7 HE6.out.lt
          have hbw7 := HB6.out.trans (hbl7.mono (by omega))
          obtain ⟨a0, a1, af0, af1⟩ := hq7.cells
          have hltc : c0 < w7.heap.size := by omega
          have hltg : ge < w7.heap.size := by omega
          obtain ⟨d0, d1, d2, d3, d4, d5, d6, d7, d8, d9, d10⟩ := he7.cells
          have fre := ebox_free he7 2
          have HQ7 := Lib.hid hq7; have HQR7 := Lib.hid hqr7; have HX7 := Lib.hid hx7; have HE7 := Lib.hid he7; have HP7 := Lib.hid hp7; have HB7 := Lib.hid hbw7
          have hn1 : ¬ (ge = c0) := by omega
          have hn2 : ¬ (c0 = ge) := by omega
          clear hq7 hqr7 hx7 he7 hp7 hbw7 hbl7
          obtain ⟨xn, hxn⟩ : ∃ xn, xn = (rUint sx).2 := ⟨_, rfl⟩
          obtain ⟨yn, hyn⟩ : ∃ yn : Nat, yn = min xn 1099511627776 := ⟨_, rfl⟩
          obtain ⟨hmin, hmin2, hwy⟩ := min40 xn yn hyn
          rw [← hxn]
          have HXN := Lib.hid hxn; have HYN := Lib.hid hyn
          clear hxn hyn
          obtain ⟨W8, hW8⟩ : ∃ W8, W8 = (((w7.setCell ⟨c0, 0, none⟩ v7).setCell ⟨c0, 1, none⟩ (.bool (rUint sx).1.2)).setCell ⟨ge, 2, none⟩ (.int .i64 (yn : Nat))).alloc (.cells #[v7, .bool (rUint sx).1.2] 52) := ⟨_, rfl⟩
          have HQ8 : Hid (QB W8 c0 v7 (rUint sx).1.2) := Lib.hid (by rw [hW8]; exact qb_old (qb_far (qb_set HQ7.out) hn2 _) _)
          have HQR8 : Hid (QB W8 (c0 + 1) (.slice none 0 0) false) := Lib.hid (by rw [hW8]; exact qb_old (qb_far (qb_far (qb_far HQR7.out (by omega) _) (by omega) _) (by omega) _) _)
          have HX8 : Hid (EBox W8 (c0 + 1 + 1) #[.int .i64 0, .int .u64 0, .int .i64 0, .int .u64 0, .string ⟨#[]⟩, .string ⟨#[]⟩, .int .i64 0, .int .i64 0, .float .f64 0, .string ⟨#[]⟩, .slice none 0 0]) := Lib.hid (by rw [hW8]; exact ebox_old (ebox_far (ebox_far (ebox_far HX7.out (by omega) _) (by omega) _) (by omega) _) _)
          have HE8 := Lib.hid (show EBox W8 ge _ from by rw [hW8]; exact ebox_old (ebox_at (o := 2) (ebox_far (b := c0) (o := 1) (ebox_far (b := c0) (o := 0) HE7.out hn1 v7) hn1 (.bool (rUint sx).1.2)) (.int .i64 (yn : Nat))) _)
          have hs8 : Below c0 w7 W8 := by rw [hW8]; exact (below_set2 (below_set2 (below_set2 (Below.refl c0 _) (Nat.le_refl _) _ _) (Nat.le_refl _) _ _) (by omega) _ _).alloc (by simp only [World.setCell, Array.size_modify]; omega) _
          have HP8 := Lib.hid (HP7.out.below hs8 hB)
          have HB8 := Lib.hid (HB7.out.trans hs8)
          clear hs8
          replace hW8 := Lib.hid hW8
          go_upto_region 11 with fail
          rw [← hW8.out]
          clear d0 d1 d2 d3 d4 d5 d6 d7 d8 d9 d10 fre hltg hltc a0 a1 af0 af1
          go_wp2_with fail
          refine ⟨⟨2, true, vk, vn, vf, vs, A, m, c, v7, (rUint sx).1, tt, rfl, by go_num, by decide, HQ8.out, HQR8.out, HX8.out, ?_, HP8.out, HB8.out, rep_zero HTT.out HREP.out _, fun _ => ⟨?_, rfl, HTT.out⟩, fun h => absurd h (by decide)⟩, by simp [intOf]⟩
          · have := HE8.out
            rw [HYN.out, HXN.out, HQE.out, hbb, HSX.out, HQE.out, hbb] at this
            rw [HQE.out, hbb]
            exact this
          · rw [HSX.out, HQE.out, hbb]; rfl
      · have hch : ((((⟨#[105, 110, 97, 115, 116, 118]⟩ : ByteArray)[2]'(by decide)).toNat : Nat) : Int) = 97 := rfl
        obtain ⟨hsx, hok, htt⟩ := hT (by decide)
        subst hok
        clear hE hT
        obtain ⟨e0, -⟩ := HEr.out.cells
        have HQE := Lib.hid hq; have HSX := Lib.hid hsx; have HTT := Lib.hid htt
        clear hq hsx htt
        go_wp2_with fail
        refine (HH2.out wr).mono ?_
        rintro x6 w6 ⟨rfl, hb6⟩
        have hz6 := hb6.size
        have HQ6 := Lib.hid (HQr.out.later hb6 HQr.out.lt)
        have HQR6 := Lib.hid (HQRr.out.later hb6 HQRr.out.lt)
        have HX6 := Lib.hid (HXr.out.later hb6 HXr.out.lt)
        have HE6 := Lib.hid (HEr.out.later hb6 HEr.out.lt)
        have HP6 := Lib.hid (HPr.out.below hb6 hBr)
        have HB6 := Lib.hid (HBr.out.trans (hb6.mono (by omega)))
        clear hb6 e0
        cases hbb : b2 with
        | false =>
          go_wp2_with fail
          refine ⟨⟨3, true, vk, vn, vf, vs, A, m, c, vj, sx, tt, rfl, by go_num, by decide, HQ6.out, HQR6.out, HX6.out, ?_, HP6.out, HB6.out, rep_zero HTT.out HREP.out w6, fun _ => ⟨?_, rfl, HTT.out⟩, fun h => absurd h (by decide)⟩, by simp [intOf]⟩
          · have := HE6.out
            rw [HQE.out, hbb] at this ⊢
            exact this
          · rw [HSX.out, HQE.out, hbb]; rfl
        | true =>
          obtain ⟨a0, a1, af0, af1⟩ := HQ6.out.cells
          have HC := Lib.hid (rruint_any sx (.agg #[vj, .bool sx.2]) w6 B (by omega) ⟨⟨vj, rfl, HP6.out.1, HP6.out.2.1⟩, HP6.out.2.2⟩)
          go_wp2_with fail
          refine HC.out.mono ?_
          rintro x7 w7 ⟨y, rfl, ⟨⟨v7, rfl, hv7, hf7⟩, hb7, hl7⟩, hbl7⟩
          have hp7 : RP w7 B v7 (rUint sx).1.1 := ⟨hv7, hf7, hb7, hl7⟩
          have hst7 := hp7.store
          have hz7 := hbl7.size
          clear hv7 hf7 hb7 hl7 a0 a1 af0 af1
          have hq7 := HQ6.out.later hbl7 HQ6.out.lt
          have hqr7 := HQR6.out.later hbl7 HQR6.out.lt
          have hx7 := HX6.out.later hbl7 HX6.out.lt
          have he7 := HE6.out.later hbl7 HE6.out.lt
          have hbw7 := HB6.out.trans (hbl7.mono (by omega))
          obtain ⟨a0, a1, af0, af1⟩ := hq7.cells
          have hltc : c0 < w7.heap.size := by omega
          have hltg : ge < w7.heap.size := by omega
          obtain ⟨d0, d1, d2, d3, d4, d5, d6, d7, d8, d9, d10⟩ := he7.cells
          have fre := ebox_free he7 3
          have HQ7 := Lib.hid hq7; have HQR7 := Lib.hid hqr7; have HX7 := Lib.hid hx7; have HE7 := Lib.hid he7; have HP7 := Lib.hid hp7; have HB7 := Lib.hid hbw7
          have hn1 : ¬ (ge = c0) := by omega
          have hn2 : ¬ (c0 = ge) := by omega
          clear hq7 hqr7 hx7 he7 hp7 hbw7 hbl7
          obtain ⟨W8, hW8⟩ : ∃ W8, W8 = ((w7.setCell ⟨c0, 0, none⟩ v7).setCell ⟨c0, 1, none⟩ (.bool (rUint sx).1.2)).setCell ⟨ge, 3, none⟩ (.int .u64 ((rUint sx).2 : Nat)) := ⟨_, rfl⟩
          have HQ8 : Hid (QB W8 c0 v7 (rUint sx).1.2) := Lib.hid (by rw [hW8]; exact qb_far (qb_set HQ7.out) hn2 _)
          have HQR8 : Hid (QB W8 (c0 + 1) (.slice none 0 0) false) := Lib.hid (by rw [hW8]; exact qb_far (qb_far (qb_far HQR7.out (by omega) _) (by omega) _) (by omega) _)
          have HX8 : Hid (EBox W8 (c0 + 1 + 1) #[.int .i64 0, .int .u64 0, .int .i64 0, .int .u64 0, .string ⟨#[]⟩, .string ⟨#[]⟩, .int .i64 0, .int .i64 0, .float .f64 0, .string ⟨#[]⟩, .slice none 0 0]) := Lib.hid (by rw [hW8]; exact ebox_far (ebox_far (ebox_far HX7.out (by omega) _) (by omega) _) (by omega) _)
          have HE8 := Lib.hid (show EBox W8 ge _ from by rw [hW8]; exact ebox_at (o := 3) (ebox_far (b := c0) (o := 1) (ebox_far (b := c0) (o := 0) HE7.out hn1 v7) hn1 (.bool (rUint sx).1.2)) (.int .u64 ((rUint sx).2 : Nat)))
          have hs8 : Below c0 w7 W8 := by rw [hW8]; exact below_set2 (below_set2 (below_set2 (Below.refl c0 _) (Nat.le_refl _) _ _) (Nat.le_refl _) _ _) (by omega) _ _
          have HP8 := Lib.hid (HP7.out.below hs8 hB)
          have HB8 := Lib.hid (HB7.out.trans hs8)
          clear hs8
          replace hW8 := Lib.hid hW8
          go_upto_region 11 with fail
          rw [← hW8.out]
          clear d0 d1 d2 d3 d4 d5 d6 d7 d8 d9 d10 fre hltg hltc a0 a1 af0 af1
          go_wp2_with fail
          refine ⟨⟨3, true, vk, vn, vf, vs, A, m, c, v7, (rUint sx).1, tt, rfl, by go_num, by decide, HQ8.out, HQR8.out, HX8.out, ?_, HP8.out, HB8.out, rep_zero HTT.out HREP.out _, fun _ => ⟨?_, rfl, HTT.out⟩, fun h => absurd h (by decide)⟩, by simp [intOf]⟩
          · have := HE8.out
            rw [HQE.out, hbb, HSX.out, HQE.out, hbb] at this
            rw [HQE.out, hbb]
            exact this
          · rw [HSX.out, HQE.out, hbb]; rfl
      · have hch : ((((⟨#[105, 110, 97, 115, 116, 118]⟩ : ByteArray)[3]'(by decide)).toNat : Nat) : Int) = 115 := rfl
        obtain ⟨hsx, hok, htt⟩ := hT (by decide)
        subst hok
        clear hE hT
        obtain ⟨e0, -⟩ := HEr.out.cells
        have HQE := Lib.hid hq; have HSX := Lib.hid hsx; have HTT := Lib.hid htt
        clear hq hsx htt
        go_wp2_with fail
        refine (HH3.out wr).mono ?_
        rintro x6 w6 ⟨rfl, hb6⟩
        have hz6 := hb6.size
        have HQ6 := Lib.hid (HQr.out.later hb6 HQr.out.lt)
        have HQR6 := Lib.hid (HQRr.out.later hb6 HQRr.out.lt)
        have HX6 := Lib.hid (HXr.out.later hb6 HXr.out.lt)
        have HE6 := Lib.hid (HEr.out.later hb6 HEr.out.lt)
        have HP6 := Lib.hid (HPr.out.below hb6 hBr)
        have HB6 := Lib.hid (HBr.out.trans (hb6.mono (by omega)))
        clear hb6 e0
        cases hbb : b3 with
        | false =>
          go_wp2_with fail
          refine ⟨⟨4, true, vk, vn, vf, vs, A, m, c, vj, sx, tt, rfl, by go_num, by decide, HQ6.out, HQR6.out, HX6.out, ?_, HP6.out, HB6.out, rep_zero HTT.out HREP.out w6, fun _ => ⟨?_, rfl, HTT.out⟩, fun h => absurd h (by decide)⟩, by simp [intOf]⟩
          · have := HE6.out
            rw [HQE.out, hbb] at this ⊢
            exact this
          · rw [HSX.out, HQE.out, hbb]; rfl
        | true =>
          obtain ⟨a0, a1, af0, af1⟩ := HQ6.out.cells
          have HC := Lib.hid (rrbytes_any sx (.agg #[vj, .bool sx.2]) w6 B (by omega) ⟨⟨vj, rfl, HP6.out.1, HP6.out.2.1⟩, HP6.out.2.2⟩)
          have HY2 := Lib.hid (rBytes_byt HP6.out.2.2.1 HP6.out.2.2.2).2.2
          go_wp2_with fail
          refine HC.out.mono ?_
          rintro x7 w7 ⟨y, v8, rfl, ⟨⟨v7, rfl, hv7, hf7⟩, hb7, hl7⟩, hv8, hf8, hbl7⟩
          have hp7 : RP w7 B v7 (rBytes sx).1.1 := ⟨hv7, hf7, hb7, hl7⟩
          have hst7 := hp7.store
          have hz7 := hbl7.size
          clear hv7 hf7 hb7 hl7 a0 a1 af0 af1
          have hq7 := HQ6.out.later hbl7 HQ6.out.lt
          have hqr7 := HQR6.out.later hbl7 HQR6.out.lt
          have hx7 := HX6.out.later hbl7 HX6.out.lt
          have he7 := HE6.out.later hbl7 HE6.out.lt
          have hbw7 := HB6.out.trans (hbl7.mono (by omega))
          obtain ⟨a0, a1, af0, af1⟩ := hq7.cells
          have hltc : c0 < w7.heap.size := by omega
          have hltg : ge < w7.heap.size := by omega
          obtain ⟨d0, d1, d2, d3, d4, d5, d6, d7, d8, d9, d10⟩ := he7.cells
          have fre := ebox_free he7 4
          have HQ7 := Lib.hid hq7; have HQR7 := Lib.hid hqr7; have HX7 := Lib.hid hx7; have HE7 := Lib.hid he7; have HP7 := Lib.hid hp7; have HB7 := Lib.hid hbw7
          have hn1 : ¬ (ge = c0) := by omega
          have hn2 : ¬ (c0 = ge) := by omega
          have HV8 := Lib.hid hv8; have HF8 := Lib.hid hf8; have HBL := Lib.hid hbl7
          clear hq7 hqr7 hx7 he7 hp7 hbw7 hbl7 hv8 hf8
          obtain ⟨Wa, hWa⟩ : ∃ Wa, Wa = ((w7.setCell ⟨c0, 0, none⟩ v7).setCell ⟨c0, 1, none⟩ (.bool (rBytes sx).1.2)).alloc (.cells #[v7, .bool (rBytes sx).1.2] 52) := ⟨_, rfl⟩
          have hsz : ((w7.setCell ⟨c0, 0, none⟩ v7).setCell ⟨c0, 1, none⟩ (.bool (rBytes sx).1.2)).heap.size = w7.heap.size := by simp [World.setCell]
          have hsa : Below c0 w7 Wa := by rw [hWa]; exact (below_set2 (below_set2 (Below.refl _ _) (Nat.le_refl _) _ _) (Nat.le_refl _) _ _).alloc (by omega) _
          have h8a : BRd Wa v8 (rBytes sx).2 := brd_keep HV8.out hsa.size fun q hq => hsa.block q (Nat.lt_of_lt_of_le (HF8.out q hq) hB)
          have hcv := (brd_in h8a).toText HY2.out
          clear h8a
          have HQa : Hid (QB Wa c0 v7 (rBytes sx).1.2) := Lib.hid (by rw [hWa]; exact qb_old (qb_set HQ7.out) _)
          have HQRa : Hid (QB Wa (c0 + 1) (.slice none 0 0) false) := Lib.hid (by rw [hWa]; exact qb_old (qb_far (qb_far HQR7.out (by omega) _) (by omega) _) _)
          have HXa : Hid (EBox Wa (c0 + 1 + 1) #[.int .i64 0, .int .u64 0, .int .i64 0, .int .u64 0, .string ⟨#[]⟩, .string ⟨#[]⟩, .int .i64 0, .int .i64 0, .float .f64 0, .string ⟨#[]⟩, .slice none 0 0]) := Lib.hid (by rw [hWa]; exact ebox_old (ebox_far (ebox_far HX7.out (by omega) _) (by omega) _) _)
          have HEa := Lib.hid (show EBox Wa ge _ from by rw [hWa]; exact ebox_old (ebox_far (b := c0) (o := 1) (ebox_far (b := c0) (o := 0) HE7.out hn1 v7) hn1 (.bool (rBytes sx).1.2)) _)
          have HPa := Lib.hid (HP7.out.below hsa hB)
          have HBa := Lib.hid (HB7.out.trans hsa)
          obtain ⟨tx, htx⟩ : ∃ tx : ByteArray, tx = ⟨((rBytes sx).2.map UInt8.ofNat).toArray⟩ := ⟨_, rfl⟩
          rw [← htx] at hcv
          have HTX := Lib.hid htx
          clear htx hsa hsz
          replace hWa := Lib.hid hWa
          go_upto_region 26 with fail
          rw [← hWa.out]
          clear a0 a1 af0 af1 d0 d1 d2 d3 d4 d5 d6 d7 d8 d9 d10 fre hst7 hltc hltg
          obtain ⟨d0, d1, d2, d3, d4, d5, d6, d7, d8, d9, d10⟩ := HEa.out.cells
          have fre := ebox_free HEa.out 4
          have hltg : ge < Wa.heap.size := HEa.out.lt
          obtain ⟨W8, hW8⟩ : ∃ W8, W8 = Wa.setCell ⟨ge, 4, none⟩ (.string tx) := ⟨_, rfl⟩
          have HQ8 : Hid (QB W8 c0 v7 (rBytes sx).1.2) := Lib.hid (by rw [hW8]; exact qb_far HQa.out hn2 _)
          have HQR8 : Hid (QB W8 (c0 + 1) (.slice none 0 0) false) := Lib.hid (by rw [hW8]; exact qb_far HQRa.out (by omega) _)
          have HX8 : Hid (EBox W8 (c0 + 1 + 1) #[.int .i64 0, .int .u64 0, .int .i64 0, .int .u64 0, .string ⟨#[]⟩, .string ⟨#[]⟩, .int .i64 0, .int .i64 0, .float .f64 0, .string ⟨#[]⟩, .slice none 0 0]) := Lib.hid (by rw [hW8]; exact ebox_far HXa.out (by omega) _)
          have HE8 := Lib.hid (show EBox W8 ge _ from by rw [hW8]; exact ebox_at (o := 4) HEa.out (.string tx))
          have hs8 : Below c0 Wa W8 := by rw [hW8]; exact below_set2 (Below.refl c0 _) (by omega) _ _
          have HP8 := Lib.hid (HPa.out.below hs8 hB)
          have HB8 := Lib.hid (HBa.out.trans hs8)
          clear hs8
          replace hW8 := Lib.hid hW8
          go_upto_region 11 with fail
          rw [← hW8.out]
          clear d0 d1 d2 d3 d4 d5 d6 d7 d8 d9 d10 fre hltg hcv
          go_wp2_with fail
          refine ⟨⟨4, true, vk, vn, vf, vs, A, m, c, v7, (rBytes sx).1, tt, rfl, by go_num, by decide, HQ8.out, HQR8.out, HX8.out, ?_, HP8.out, HB8.out, rep_zero HTT.out HREP.out _, fun _ => ⟨?_, rfl, HTT.out⟩, fun h => absurd h (by decide)⟩, by simp [intOf]⟩
          · have := HE8.out
            rw [HTX.out, HQE.out, hbb, HSX.out, HQE.out, hbb] at this
            rw [HQE.out, hbb]
            exact this
          · rw [HSX.out, HQE.out, hbb]; rfl
      · have hch : ((((⟨#[105, 110, 97, 115, 116, 118]⟩ : ByteArray)[4]'(by decide)).toNat : Nat) : Int) = 116 := rfl
        obtain ⟨hsx, hok, htt⟩ := hT (by decide)
        subst hok
        clear hE hT
        obtain ⟨e0, -⟩ := HEr.out.cells
        have HQE := Lib.hid hq; have HSX := Lib.hid hsx; have HTT := Lib.hid htt
        clear hq hsx htt
        go_wp2_with fail
        refine (HH4.out wr).mono ?_
        rintro x6 w6 ⟨rfl, hb6⟩
        have hz6 := hb6.size
        have HQ6 := Lib.hid (HQr.out.later hb6 HQr.out.lt)
        have HQR6 := Lib.hid (HQRr.out.later hb6 HQRr.out.lt)
        have HX6 := Lib.hid (HXr.out.later hb6 HXr.out.lt)
        have HE6 := Lib.hid (HEr.out.later hb6 HEr.out.lt)
        have HP6 := Lib.hid (HPr.out.below hb6 hBr)
        have HB6 := Lib.hid (HBr.out.trans (hb6.mono (by omega)))
        clear hb6 e0
        cases hbb : b4 with
        | false =>
          go_wp2_with fail
          refine ⟨⟨5, true, vk, vn, vf, vs, A, m, c, vj, sx, tt, rfl, by go_num, by decide, HQ6.out, HQR6.out, HX6.out, ?_, HP6.out, HB6.out, rep_zero HTT.out HREP.out w6, fun _ => ⟨?_, rfl, HTT.out⟩, fun h => absurd h (by decide)⟩, by simp [intOf]⟩
          · have := HE6.out
            rw [HQE.out, hbb] at this ⊢
            exact this
          · rw [HSX.out, HQE.out, hbb]; rfl
        | true =>
          obtain ⟨a0, a1, af0, af1⟩ := HQ6.out.cells
          have HC := Lib.hid (rrbytes_any sx (.agg #[vj, .bool sx.2]) w6 B (by omega) ⟨⟨vj, rfl, HP6.out.1, HP6.out.2.1⟩, HP6.out.2.2⟩)
          have HY2 := Lib.hid (rBytes_byt HP6.out.2.2.1 HP6.out.2.2.2).2.2
          go_wp2_with fail
          refine HC.out.mono ?_
          rintro x7 w7 ⟨y, v8, rfl, ⟨⟨v7, rfl, hv7, hf7⟩, hb7, hl7⟩, hv8, hf8, hbl7⟩
          have hp7 : RP w7 B v7 (rBytes sx).1.1 := ⟨hv7, hf7, hb7, hl7⟩
          have hst7 := hp7.store
          have hz7 := hbl7.size
          clear hv7 hf7 hb7 hl7 a0 a1 af0 af1
          have hq7 := HQ6.out.later hbl7 HQ6.out.lt
          have hqr7 := HQR6.out.later hbl7 HQR6.out.lt
          have hx7 := HX6.out.later hbl7 HX6.out.lt
          have he7 := HE6.out.later hbl7 HE6.out.lt
          have hbw7 := HB6.out.trans (hbl7.mono (by omega))
          obtain ⟨a0, a1, af0, af1⟩ := hq7.cells
          have hltc : c0 < w7.heap.size := by omega
          have hltg : ge < w7.heap.size := by omega
          obtain ⟨d0, d1, d2, d3, d4, d5, d6, d7, d8, d9, d10⟩ := he7.cells
          have fre := ebox_free he7 5
          have HQ7 := Lib.hid hq7; have HQR7 := Lib.hid hqr7; have HX7 := Lib.hid hx7; have HE7 := Lib.hid he7; have HP7 := Lib.hid hp7; have HB7 := Lib.hid hbw7
          have hn1 : ¬ (ge = c0) := by omega
          have hn2 : ¬ (c0 = ge) := by omega
          have HV8 := Lib.hid hv8; have HF8 := Lib.hid hf8; have HBL := Lib.hid hbl7
          clear hq7 hqr7 hx7 he7 hp7 hbw7 hbl7 hv8 hf8
          obtain ⟨Wa, hWa⟩ : ∃ Wa, Wa = ((w7.setCell ⟨c0, 0, none⟩ v7).setCell ⟨c0, 1, none⟩ (.bool (rBytes sx).1.2)).alloc (.cells #[v7, .bool (rBytes sx).1.2] 52) := ⟨_, rfl⟩
          have hsz : ((w7.setCell ⟨c0, 0, none⟩ v7).setCell ⟨c0, 1, none⟩ (.bool (rBytes sx).1.2)).heap.size = w7.heap.size := by simp [World.setCell]
          have hsa : Below c0 w7 Wa := by rw [hWa]; exact (below_set2 (below_set2 (Below.refl _ _) (Nat.le_refl _) _ _) (Nat.le_refl _) _ _).alloc (by omega) _
          have h8a : BRd Wa v8 (rBytes sx).2 := brd_keep HV8.out hsa.size fun q hq => hsa.block q (Nat.lt_of_lt_of_le (HF8.out q hq) hB)
          have hcv := (brd_in h8a).toText HY2.out
          clear h8a
          have HQa : Hid (QB Wa c0 v7 (rBytes sx).1.2) := Lib.hid (by rw [hWa]; exact qb_old (qb_set HQ7.out) _)
          have HQRa : Hid (QB Wa (c0 + 1) (.slice none 0 0) false) := Lib.hid (by rw [hWa]; exact qb_old (qb_far (qb_far HQR7.out (by omega) _) (by omega) _) _)
          have HXa : Hid (EBox Wa (c0 + 1 + 1) #[.int .i64 0, .int .u64 0, .int .i64 0, .int .u64 0, .string ⟨#[]⟩, .string ⟨#[]⟩, .int .i64 0, .int .i64 0, .float .f64 0, .string ⟨#[]⟩, .slice none 0 0]) := Lib.hid (by rw [hWa]; exact ebox_old (ebox_far (ebox_far HX7.out (by omega) _) (by omega) _) _)
          have HEa := Lib.hid (show EBox Wa ge _ from by rw [hWa]; exact ebox_old (ebox_far (b := c0) (o := 1) (ebox_far (b := c0) (o := 0) HE7.out hn1 v7) hn1 (.bool (rBytes sx).1.2)) _)
          have HPa := Lib.hid (HP7.out.below hsa hB)
          have HBa := Lib.hid (HB7.out.trans hsa)
          obtain ⟨tx, htx⟩ : ∃ tx : ByteArray, tx = ⟨((rBytes sx).2.map UInt8.ofNat).toArray⟩ := ⟨_, rfl⟩
          rw [← htx] at hcv
          have HTX := Lib.hid htx
          clear htx hsa hsz
          replace hWa := Lib.hid hWa
          go_upto_region 30 with fail
          rw [← hWa.out]
          clear a0 a1 af0 af1 d0 d1 d2 d3 d4 d5 d6 d7 d8 d9 d10 fre hst7 hltc hltg
          obtain ⟨d0, d1, d2, d3, d4, d5, d6, d7, d8, d9, d10⟩ := HEa.out.cells
          have fre := ebox_free HEa.out 5
          have hltg : ge < Wa.heap.size := HEa.out.lt
          obtain ⟨W8, hW8⟩ : ∃ W8, W8 = Wa.setCell ⟨ge, 5, none⟩ (.string tx) := ⟨_, rfl⟩
          have HQ8 : Hid (QB W8 c0 v7 (rBytes sx).1.2) := Lib.hid (by rw [hW8]; exact qb_far HQa.out hn2 _)
          have HQR8 : Hid (QB W8 (c0 + 1) (.slice none 0 0) false) := Lib.hid (by rw [hW8]; exact qb_far HQRa.out (by omega) _)
          have HX8 : Hid (EBox W8 (c0 + 1 + 1) #[.int .i64 0, .int .u64 0, .int .i64 0, .int .u64 0, .string ⟨#[]⟩, .string ⟨#[]⟩, .int .i64 0, .int .i64 0, .float .f64 0, .string ⟨#[]⟩, .slice none 0 0]) := Lib.hid (by rw [hW8]; exact ebox_far HXa.out (by omega) _)
          have HE8 := Lib.hid (show EBox W8 ge _ from by rw [hW8]; exact ebox_at (o := 5) HEa.out (.string tx))
          have hs8 : Below c0 Wa W8 := by rw [hW8]; exact below_set2 (Below.refl c0 _) (by omega) _ _
          have HP8 := Lib.hid (HPa.out.below hs8 hB)
          have HB8 := Lib.hid (HBa.out.trans hs8)
          clear hs8
          replace hW8 := Lib.hid hW8
          go_upto_region 11 with fail
          rw [← hW8.out]
          clear d0 d1 d2 d3 d4 d5 d6 d7 d8 d9 d10 fre hltg hcv
          go_wp2_with fail
          refine ⟨⟨5, true, vk, vn, vf, vs, A, m, c, v7, (rBytes sx).1, tt, rfl, by go_num, by decide, HQ8.out, HQR8.out, HX8.out, ?_, HP8.out, HB8.out, rep_zero HTT.out HREP.out _, fun _ => ⟨?_, rfl, HTT.out⟩, fun h => absurd h (by decide)⟩, by simp [intOf]⟩
          · have := HE8.out
            rw [HTX.out, HQE.out, hbb, HSX.out, HQE.out, hbb] at this
            rw [HQE.out, hbb]
            exact this
          · rw [HSX.out, HQE.out, hbb]; rfl
      · have hch : ((((⟨#[105, 110, 97, 115, 116, 118]⟩ : ByteArray)[5]'(by decide)).toNat : Nat) : Int) = 118 := rfl
        obtain ⟨hsx, hok, htt⟩ := hT (by decide)
        subst hok
        clear hE hT
        obtain ⟨e0, -⟩ := HEr.out.cells
        have HQE := Lib.hid hq; have HTT := Lib.hid htt
        have HSX : Hid (sx = q.s4) := Lib.hid hsx
        clear hq hsx htt
        go_wp2_with fail
        refine (HH5.out wr).mono ?_
        rintro x6 w6 ⟨rfl, hb6⟩
        have hz6 := hb6.size
        have HQ6 := Lib.hid (HQr.out.later hb6 HQr.out.lt)
        have HQR6 := Lib.hid (HQRr.out.later hb6 HQRr.out.lt)
        have HX6 := Lib.hid (HXr.out.later hb6 HXr.out.lt)
        have HE6 := Lib.hid (HEr.out.later hb6 HEr.out.lt)
        have HP6 := Lib.hid (HPr.out.below hb6 hBr)
        have HB6 := Lib.hid (HBr.out.trans (hb6.mono (by omega)))
        clear hb6 e0
        cases hbb : b5 with
        | false =>
          go_wp2_with fail
          refine ⟨⟨6, true, vk, vn, vf, vs, A, m, c, vj, sx, tt, rfl, by go_num, by decide, HQ6.out, HQR6.out, HX6.out, HE6.out, HP6.out, HB6.out, rep_zero HTT.out HREP.out w6, fun h => absurd h (by decide), fun _ => ⟨fun _ => ?_, fun h => Bool.noConfusion h⟩⟩, by simp [intOf]⟩
          rw [← HSX.out, HTT.out]; unfold oval; (try rw [hbb]); simp
        | true =>
          obtain ⟨a0, a1, af0, af1⟩ := HQ6.out.cells
          have HC := Lib.hid (rvread_any sx (.agg #[vj, .bool sx.2]) w6 B (by omega) ⟨⟨vj, rfl, HP6.out.1, HP6.out.2.1⟩, HP6.out.2.2⟩)
          go_wp2_with fail
          refine HC.out.mono ?_
          intro x7 w7 hvr
          obtain ⟨okb, y, ⟨l7, bad7⟩, k', n', f', s', A', m', c', tt2, rfl, ⟨⟨v7, rfl, hv7, hf7⟩, hb7, hl7⟩, hrep7, hbl7, hyes, hno⟩ := hvr
          simp only at hv7 hf7 hb7 hl7
          have hp7 : RP w7 B v7 l7 := ⟨hv7, hf7, hb7, hl7⟩
          have hst7 := hp7.store
          have hz7 := hbl7.size
          clear hv7 hf7 hb7 hl7 a0 a1 af0 af1
          have hq7 := HQ6.out.later hbl7 HQ6.out.lt
          have hqr7 := HQR6.out.later hbl7 HQR6.out.lt
          have hx7 := HX6.out.later hbl7 HX6.out.lt
          have he7 := HE6.out.later hbl7 HE6.out.lt
          have hbw7 := HB6.out.trans (hbl7.mono (by omega))
          obtain ⟨a0, a1, af0, af1⟩ := hq7.cells
          have hltc : c0 < w7.heap.size := by omega
          have hltg : ge < w7.heap.size := by omega
          obtain ⟨d0, d1, d2, d3, d4, d5, d6, d7, d8, d9, d10⟩ := he7.cells
          have fr6 := ebox_free he7 6
          have fr7 := ebox_free he7 7
          have fr8 := ebox_free he7 8
          have fr9 := ebox_free he7 9
          have fr10 := ebox_free he7 10
          have HQ7 := Lib.hid hq7; have HQR7 := Lib.hid hqr7; have HX7 := Lib.hid hx7; have HE7 := Lib.hid he7; have HP7 := Lib.hid hp7; have HB7 := Lib.hid hbw7; have HREP7 := Lib.hid hrep7; have HY := Lib.hid hyes; have HNO := Lib.hid hno
          have hn1 : ¬ (ge = c0) := by omega
          have hn2 : ¬ (c0 = ge) := by omega
          have hlg6 : ge + 1 ≤ w6.heap.size := by omega
          have hgx : c0 + 1 ≠ ge ∧ c0 + 1 + 1 ≠ ge ∧ c0 ≤ ge := by omega
          clear hq7 hqr7 hx7 he7 hp7 hbw7 hbl7 hrep7 hyes hno
          obtain ⟨Wx, hWx⟩ : ∃ Wx, Wx = (w7.setCell ⟨c0, 0, none⟩ v7).setCell ⟨c0, 1, none⟩ (.bool bad7) := ⟨_, rfl⟩
          obtain ⟨W8, hW8⟩ : ∃ W8, W8 = ((((((w7.setCell ⟨c0, 0, none⟩ v7).setCell ⟨c0, 1, none⟩ (.bool bad7)).setCell ⟨ge, 6, none⟩ (.int .i64 k')).setCell ⟨ge, 7, none⟩ (.int .i64 n')).setCell ⟨ge, 8, none⟩ (.float .f64 f')).setCell ⟨ge, 9, none⟩ (.string s')).setCell ⟨ge, 10, none⟩ (.slice A' m' c') := ⟨_, rfl⟩
          have hW8p : W8 = put5 Wx ge 6 (.int .i64 k') (.int .i64 n') (.float .f64 f') (.string s') (.slice A' m' c') := by rw [hW8, hWx]; rfl
          have hox : ∀ b, b ≠ ge → W8.heap[b]? = Wx.heap[b]? := fun b hb => by rw [hW8p]; exact Vt.put5_other _ _ _ _ _ _ _ _ b hb
          have hsx : Wx.heap.size = w7.heap.size := by rw [hWx]; simp [World.setCell]
          have hs8z : W8.heap.size = w7.heap.size := by rw [hW8p, Vt.put5_size, hsx]
          have hoc : ∀ b, b ≠ c0 → Wx.heap[b]? = w7.heap[b]? := fun b hb => by rw [hWx]; exact (Below.heap_setCell _ ⟨c0, 1, none⟩ _ b (by simpa using hb)).trans (Below.heap_setCell _ ⟨c0, 0, none⟩ _ b (by simpa using hb))
          have HQ8 : Hid (QB W8 c0 v7 bad7) := Lib.hid ((hox c0 hn2).trans (by rw [hWx]; exact qb_set HQ7.out))
          have HQR8 : Hid (QB W8 (c0 + 1) (.slice none 0 0) false) := Lib.hid ((hox _ hgx.1).trans ((hoc _ (by omega)).trans HQR7.out))
          have HX8 : Hid (EBox W8 (c0 + 1 + 1) #[.int .i64 0, .int .u64 0, .int .i64 0, .int .u64 0, .string ⟨#[]⟩, .string ⟨#[]⟩, .int .i64 0, .int .i64 0, .float .f64 0, .string ⟨#[]⟩, .slice none 0 0]) := Lib.hid ((hox _ hgx.2.1).trans ((hoc _ (by omega)).trans HX7.out))
          have HE8 : Hid (EBox W8 ge (ecs2 q k 5 (.int .i64 k') (.int .i64 n') (.float .f64 f') (.string s') (.slice A' m' c'))) := Lib.hid (by rw [hW8p]; exact Vt.put5_block Wx ge 6 _ _ _ _ _ _ _ ((hoc ge hn1).trans HE7.out))
          have hs8 : Below c0 w7 W8 := by rw [hW8p, hWx]; exact Vt.put5_below (below_set2 (below_set2 (Below.refl _ _) (Nat.le_refl _) _ _) (Nat.le_refl _) _ _) hgx.2.2
          have HP8 := Lib.hid (HP7.out.below hs8 hB)
          have HB8 := Lib.hid (HB7.out.trans hs8)
          have HREP8 : Hid (Rep W8 (ge + 1) W8.heap.size tt2 (.agg #[.int .i64 k', .int .i64 n', .float .f64 f', .string s', .slice A' m' c'])) := Lib.hid (by rw [hs8z]; exact (HREP7.out.keep fun b o h1 h2 => World.cell?_of_block (a := ⟨b, o, none⟩) ((hox b (by omega)).trans (hoc b (by omega)))).more hlg6 (Nat.le_refl _))
          clear hs8 hW8p hox hoc hsx hs8z hWx
          replace hW8 := Lib.hid hW8
          go_upto_region 11 with fail
          rw [← hW8.out]
          clear d0 d1 d2 d3 d4 d5 d6 d7 d8 d9 d10 fr6 fr7 fr8 fr9 fr10 hltg hltc a0 a1 af0 af1
          go_wp2_with fail
          refine ⟨⟨6, okb, k', n', f', s', A', m', c', v7, (l7, bad7), tt2, rfl, by go_num, by decide, HQ8.out, HQR8.out, HX8.out, HE8.out, HP8.out, HB8.out, HREP8.out, fun h => absurd h (by decide), fun _ => ⟨fun h => ?_, fun h => ?_⟩⟩, by simp [intOf]⟩
          · rw [← HSX.out]; unfold oval; (try rw [hbb]); rw [if_pos rfl]; exact HY.out h
          · rw [← HSX.out]; unfold oval; (try rw [hbb]); rw [if_pos rfl]; exact HNO.out h
      · obtain ⟨hyes, hno⟩ := hE rfl
        clear hT hE
        obtain ⟨ii, hii⟩ : ∃ ii, ii = q.i := ⟨_, rfl⟩
        obtain ⟨nn, hnn⟩ : ∃ nn, nn = min q.n 1099511627776 := ⟨_, rfl⟩
        obtain ⟨aa, haa⟩ : ∃ aa, aa = q.a := ⟨_, rfl⟩
        obtain ⟨ss, hss⟩ : ∃ ss, ss = q.s := ⟨_, rfl⟩
        obtain ⟨tx, htx⟩ : ∃ tx, tx = q.t := ⟨_, rfl⟩
        have he6 : EBox wr ge #[.int .i64 (k : Nat), .int .u64 (ii : Nat), .int .i64 (nn : Nat), .int .u64 (aa : Nat), .string ss, .string tx, .int .i64 vk, .int .i64 vn, .float .f64 vf, .string vs, .slice A m c] := by rw [hii, hnn, haa, hss, htx]; exact HEr.out
        obtain ⟨e, he⟩ : ∃ e, e = mkE2 k q.i q.n q.a q.s q.t tt := ⟨_, rfl⟩
        obtain ⟨vn1, vn2⟩ := valid_n k q.i q.n q.a q.s q.t tt
        have HPF : Hid (pf k b0 b1 b2 b3 b4 b5 (l2, false) = match oval b5 q.s4 with | none => none | some (s5, v) => if s5.2 = true ∨ (mkE k q.i q.n q.a q.s q.t v).valid = false then none else some (s5, mkE k q.i q.n q.a q.s q.t v)) := Lib.hid (by rw [hq]; rfl)
        have hfb := HFB.out
        rw [← hq] at hfb
        have hek : e.k = (k : Int) := by rw [he]; rfl
        have HF : Hid (FieldsOk e) := Lib.hid (by rw [he]; exact ⟨by show (-9223372036854775808 : Int) ≤ (k : Int); omega, by show (k : Int) ≤ 9223372036854775807; omega, hfb.1, by show (-9223372036854775808 : Int) ≤ ((min q.n 1099511627776 : Nat) : Int); omega, by show ((min q.n 1099511627776 : Nat) : Int) ≤ 9223372036854775807; omega, hfb.2.1, by show q.s.size ≤ maxLen; simp only [maxLen]; omega, by show q.t.size ≤ maxLen; simp only [maxLen]; omega⟩)
        have HEC : Hid (Value.agg #[.int .i64 (k : Nat), .int .u64 (ii : Nat), .int .i64 (nn : Nat), .int .u64 (aa : Nat), .string ss, .string tx, .int .i64 vk, .int .i64 vn, .float .f64 vf, .string vs, .slice A m c] = .agg (evCells e vk vn vf vs A m c)) := Lib.hid (by rw [hii, hnn, haa, hss, htx, he]; rfl)
        have HEV : Hid (e.v = tt) := Lib.hid (by rw [he]; rfl)
        have HER : Hid (∀ W, Below wr.heap.size wr W → ERep W (ge + 1) wr.heap.size e (.agg #[.int .i64 (k : Nat), .int .u64 (ii : Nat), .int .i64 (nn : Nat), .int .u64 (aa : Nat), .string ss, .string tx, .int .i64 vk, .int .i64 vn, .float .f64 vf, .string vs, .slice A m c]) ∧ wr.heap.size ≤ W.heap.size) := Lib.hid fun W hW => ⟨⟨HF.out, vk, vn, vf, vs, A, m, c, HEC.out, by rw [HEV.out]; exact HREP.out.later hW⟩, hW.size⟩
        have HVAL : Hid (Calls Tryz.prog 58 #[.agg #[.int .i64 (k : Nat), .int .u64 (ii : Nat), .int .i64 (nn : Nat), .int .u64 (aa : Nat), .string ss, .string tx, .int .i64 vk, .int .i64 vn, .float .f64 vf, .string vs, .slice A m c]] wr fun r w' => r = .returned (.bool e.valid) ∧ Below wr.heap.size wr w') := Lib.hid (by rw [HEC.out]; exact rvalid_ev2 e (by rw [hek]; omega) (by rw [hek]; omega) (ge + 1) wr.heap.size vk vn vf vs A m c wr (by rw [HEV.out]; exact HREP.out) (Nat.le_refl _))
        have HNOF : Hid (okb = false → pe (l, bad) = none) := Lib.hid fun h => by rw [HPE.out, HPF.out, hno h]
        have HBADF : Hid (okb = true → sx.2 = true → pe (l, bad) = none) := Lib.hid fun h h2 => by rw [HPE.out, HPF.out, hyes h]; simp only; rw [if_pos (.inl h2)]
        have HINV : Hid (okb = true → e.valid = false → pe (l, bad) = none) := Lib.hid fun h h2 => by rw [HPE.out, HPF.out, hyes h]; simp only; rw [if_pos (.inr (by rw [← vn1, ← he]; exact h2))]
        have HYES : Hid (okb = true → sx.2 = false → e.valid = true → pe (l, bad) = some (sx, e)) := Lib.hid fun h h2 h3 => by
          have h4 : (mkE k q.i q.n q.a q.s q.t tt).valid = true := by rw [← vn1, ← he]; exact h3
          rw [HPE.out, HPF.out, hyes h]; simp only; rw [if_neg (by rw [h2, h4]; simp), he, vn2 h4]
        have HE6 := Lib.hid he6; have hloo : w.heap.size ≤ ge + 1 := by rw [← HC0.out]; omega
        clear hq hii hnn haa hss htx hfb hyes hno he vn1 vn2 hek he6
        obtain ⟨a0, a1, af0, af1⟩ := HQr.out.cells
        obtain ⟨q0, q1, qf0, qf1⟩ := HQRr.out.cells
        obtain ⟨r0, r1, r2, r3, r4, r5, r6, r7, r8, r9, r10⟩ := HXr.out.cells
        obtain ⟨f0, f1, f2, f3, f4, f5, f6, f7, f8, f9, f10⟩ := ebox_frees HXr.out
        have hltx := HXr.out.lt
        have hstj := HPr.out.store
        obtain ⟨e0, e1, e2, e3, e4, e5, e6, e7, e8, e9, e10⟩ := HE6.out.cells
        obtain ⟨lj, badj⟩ := sx
        simp only at *
        cases badj with
        | true =>
          have HN : Hid (pe (l, bad) = none) := Lib.hid (by cases okb with | true => exact HBADF.out rfl rfl | false => exact HNOF.out rfl)
          go_wp2_with fail
          refine bodyPost_ret (v := .tuple #[.agg #[vj, .bool true], .agg #[.int .i64 0, .int .u64 0, .int .i64 0, .int .u64 0, .string ⟨#[]⟩, .string ⟨#[]⟩, .int .i64 0, .int .i64 0, .float .f64 0, .string ⟨#[]⟩, .slice none 0 0], .bool false]) (by simp [results, Tryz.results22, go_sem, q0, q1, r0, r1, r2, r3, r4, r5, r6, r7, r8, r9, r10]) rfl ?_
          exact re_no (s' := (lj, true)) HN.out (HPr.out.below (C := c0) (fin13 (Below.refl _ _) (Nat.le_succ _) _ _ _ _ _ _ _ _ _ _ _ _ _) hB) (by rw [← HC0.out]; exact fin13 HBr.out (Nat.le_succ _) _ _ _ _ _ _ _ _ _ _ _ _ _)
        | false =>
          cases okb with
          | false =>
            have HN : Hid (pe (l, bad) = none) := Lib.hid (HNOF.out rfl)
            go_wp2_with fail
            refine bodyPost_ret (v := .tuple #[.agg #[vj, .bool false], .agg #[.int .i64 0, .int .u64 0, .int .i64 0, .int .u64 0, .string ⟨#[]⟩, .string ⟨#[]⟩, .int .i64 0, .int .i64 0, .float .f64 0, .string ⟨#[]⟩, .slice none 0 0], .bool false]) (by simp [results, Tryz.results22, go_sem, q0, q1, r0, r1, r2, r3, r4, r5, r6, r7, r8, r9, r10]) rfl ?_
            exact re_no (s' := (lj, false)) HN.out (HPr.out.below (C := c0) (fin13 (Below.refl _ _) (Nat.le_succ _) _ _ _ _ _ _ _ _ _ _ _ _ _) hB) (by rw [← HC0.out]; exact fin13 HBr.out (Nat.le_succ _) _ _ _ _ _ _ _ _ _ _ _ _ _)
          | true =>
            have HI2 : Hid (e.valid = false → pe (l, bad) = none) := Lib.hid (HINV.out rfl)
            have HY2 : Hid (e.valid = true → pe (l, bad) = some ((lj, false), e)) := Lib.hid (HYES.out rfl rfl)
            go_wp2_with fail
            refine HVAL.out.mono ?_
            rintro x7 w7 ⟨rfl, hb7⟩
            clear a0 a1 af0 af1 q0 q1 qf0 qf1 r0 r1 r2 r3 r4 r5 r6 r7 r8 r9 r10 f0 f1 f2 f3 f4 f5 f6 f7 f8 f9 f10 e0 e1 e2 e3 e4 e5 e6 e7 e8 e9 e10 hstj
            have HQ7 := Lib.hid (HQr.out.later hb7 HQr.out.lt)
            have HQR7 := Lib.hid (HQRr.out.later hb7 HQRr.out.lt)
            have HX7 := Lib.hid (HXr.out.later hb7 HXr.out.lt)
            have HE7 := Lib.hid (HE6.out.later hb7 HE6.out.lt)
            have HP7 := Lib.hid (HPr.out.below hb7 hBr)
            have HB7 := Lib.hid (HBr.out.trans (hb7.mono (by omega)))
            have HER7 := Lib.hid (HER.out w7 hb7)
            clear hb7
            obtain ⟨a0, a1, af0, af1⟩ := HQ7.out.cells
            obtain ⟨q0, q1, qf0, qf1⟩ := HQR7.out.cells
            obtain ⟨r0, r1, r2, r3, r4, r5, r6, r7, r8, r9, r10⟩ := HX7.out.cells
            obtain ⟨f0, f1, f2, f3, f4, f5, f6, f7, f8, f9, f10⟩ := ebox_frees HX7.out
            have hltx7 := HX7.out.lt
            have hst7 := HP7.out.store
            obtain ⟨e0, e1, e2, e3, e4, e5, e6, e7, e8, e9, e10⟩ := HE7.out.cells
            have hltg7 := HE7.out.lt
            have hn1 : ¬ (ge = c0) := by omega
            have hn2 : ¬ (c0 = ge) := by omega
            have hn3 : ¬ (ge = c0 + 1) := by omega
            have hn4 : ¬ (ge = c0 + 1 + 1) := by omega
            have hgl3 : c0 + 1 + 1 < ge + 1 := by omega
            cases hval : e.valid with
            | false =>
              have HN : Hid (pe (l, bad) = none) := Lib.hid (HI2.out hval)
              go_wp2_with fail
              refine bodyPost_ret (v := .tuple #[.agg #[vj, .bool false], .agg #[.int .i64 0, .int .u64 0, .int .i64 0, .int .u64 0, .string ⟨#[]⟩, .string ⟨#[]⟩, .int .i64 0, .int .i64 0, .float .f64 0, .string ⟨#[]⟩, .slice none 0 0], .bool false]) (by simp [results, Tryz.results22, go_sem, q0, q1, r0, r1, r2, r3, r4, r5, r6, r7, r8, r9, r10]) rfl ?_
              exact re_no (s' := (lj, false)) HN.out (HP7.out.below (C := c0) (fin13 (Below.refl _ _) (Nat.le_succ _) _ _ _ _ _ _ _ _ _ _ _ _ _) hB) (by rw [← HC0.out]; exact fin13 HB7.out (Nat.le_succ _) _ _ _ _ _ _ _ _ _ _ _ _ _)
            | true =>
              have HYY : Hid (pe (l, bad) = some ((lj, false), e)) := Lib.hid (HY2.out hval)
              clear hval
              go_wp2_with fail
              go_region
              go_wp2_with fail
              refine bodyPost_ret (v := .tuple #[.agg #[vj, .bool false], .agg #[.int .i64 (k : Nat), .int .u64 (ii : Nat), .int .i64 (nn : Nat), .int .u64 (aa : Nat), .string ss, .string tx, .int .i64 vk, .int .i64 vn, .float .f64 vf, .string vs, .slice A m c], .bool true]) (by simp [results, Tryz.results22, go_sem, q0, q1, r0, r1, r2, r3, r4, r5, r6, r7, r8, r9, r10]) rfl ?_
              exact re_yes (s' := (lj, false)) HYY.out (HP7.out.below (C := c0) (below_drew (fin13 (Below.refl _ _) (Nat.le_succ _) _ _ _ _ _ _ _ _ _ _ _ _ _)) hB) (by rw [← HC0.out]; exact below_drew (fin13 HB7.out (Nat.le_succ _) _ _ _ _ _ _ _ _ _ _ _ _ _)) (erep_fin HER7.out (by omega) hloo)

theorem reread_any (s : St) (x : Value) (w : World) (B : Nat) (hB : B ≤ w.heap.size) (h : RV w B s x) : Calls Tryz.prog 22 #[x] w (RERead s B w) := by
  by_cases hq : (rTake s 1).2 ≠ [1] ∨ (rUint (rTake s 1).1).1.2 = true ∨ 11 < (rUint (rTake s 1).1).2
  · refine re_bad s x w B hB h ?_ (by unfold pe; simp only; rw [if_pos hq])
    rcases hq with h | h | h
    · exact .inl h
    · exact .inr (.inl h)
    · exact .inr (.inr (.inr h))
  · have h1 : (rTake s 1).2 = [1] := by
      cases hh : decide ((rTake s 1).2 = [1]) with
      | true => simpa using hh
      | false => exact absurd (.inl (by simpa using hh)) hq
    have h2 : (rUint (rTake s 1).1).1.2 = false := bool_of fun hh => hq (.inr (.inl hh))
    have h3 : (rUint (rTake s 1).1).2 ≤ 11 := by have := fun hh => hq (.inr (.inr hh)); omega
    have hpe : pe s = pf (rUint (rTake s 1).1).2 ((fieldsOf (rUint (rTake s 1).1).2).contains 0) ((fieldsOf (rUint (rTake s 1).1).2).contains 1) ((fieldsOf (rUint (rTake s 1).1).2).contains 2) ((fieldsOf (rUint (rTake s 1).1).2).contains 3) ((fieldsOf (rUint (rTake s 1).1).2).contains 4) ((fieldsOf (rUint (rTake s 1).1).2).contains 5) (rUint (rTake s 1).1).1 := by
      unfold pe
      simp only
      rw [if_neg hq]
    by_cases hk : 1 ≤ (rUint (rTake s 1).1).2
    · exact re_good s x w B hB h ⟨h1, h2, hk, h3⟩ _ _ _ _ _ _ rfl rfl rfl rfl rfl rfl hpe
    · have hk0 : (rUint (rTake s 1).1).2 = 0 := by omega
      refine re_bad s x w B hB h (.inr (.inr (.inl (by omega)))) ?_
      rw [hpe, hk0]
      unfold pf
      simp only
      split
      · rfl
      · rw [if_pos]
        refine .inr ?_
        show (mkE 0 _ _ _ _ _ _).valid = false
        unfold EV.valid mkE
        simp
end Rd
end Go.Proofs.YtcbddebmmaflgaaGreat
