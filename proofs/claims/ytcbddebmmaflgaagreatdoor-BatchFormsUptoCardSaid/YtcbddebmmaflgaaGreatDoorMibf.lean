/- event.Read: an event. -/
/- Rows of events that are read: they lie above the reader. -/
/- A form of an event, or of a batch, is read as what it is the form of. No program in sight. -/
import Derived.Laws.Rows
import Derived.Laws.IdiomRangeMap
import Derived.Test.YtcbddebmmaflgaaGreatDoorMibe
import Derived.Test.YtcbddebmmaflgaaGreatDoorMibb
import Derived.Test.YtcbddebmmaflgaaGreatDoorMiai
import Derived.Test.YtcbddebmmaflgaaGreatDoorMiaz
namespace Go.Proofs.YtcbddebmmaflgaaGreatDoor
open Go.RowKit
set_option linter.unusedVariables false
set_option linter.unusedSimpArgs false
namespace Rd
open _root_.Go.Proofs.YtcbddebmmaflgaaGreatDoor.Nm (ret_int ret_bool)
open Vt (VT Rep BoxAt below_drew put5)
open Ev (EV EBox ERep fieldsOf FieldsOk zeroT evCells vCells)
open Cm (OnlyAt)
open Cn (BRd)
attribute [local go_sem] Vt.run_store_float

/-- The event's cells after j fields. -/
def ecs (q : FR) (k j : Nat) (v0 v1 v2 v3 v4 : Value) : Array Value := #[.int .i64 (k : Nat), .int .u64 ((if 0 < j then q.i else 0 : Nat) : Int), .int .i64 ((if 1 < j then min q.n 2147483648 else 0 : Nat) : Int), .int .u64 ((if 2 < j then q.a else 0 : Nat) : Int), .string (if 3 < j then q.s else ⟨#[]⟩), .string (if 4 < j then q.t else ⟨#[]⟩), v0, v1, v2, v3, v4]
def est (q : FR) (sq : St) (j : Nat) : St := if j = 0 then sq else if j = 1 then q.s0 else if j = 2 then q.s1 else if j = 3 then q.s2 else if j = 4 then q.s3 else q.s4
def FBox (w : World) (c0 ge : Nat) : Prop := w.heap[ge + 1 + 1]? = some (.cells #[.func (Fn.func 33) #[] #[.pointer (some ⟨c0, 0, none⟩), .pointer (some ⟨ge, 0, none⟩)], .func (Fn.func 34) #[] #[.pointer (some ⟨c0, 0, none⟩), .pointer (some ⟨ge, 0, none⟩)], .func (Fn.func 35) #[] #[.pointer (some ⟨c0, 0, none⟩), .pointer (some ⟨ge, 0, none⟩)], .func (Fn.func 36) #[] #[.pointer (some ⟨c0, 0, none⟩), .pointer (some ⟨ge, 0, none⟩)], .func (Fn.func 38) #[] #[.pointer (some ⟨c0, 0, none⟩), .pointer (some ⟨ge, 0, none⟩)], .func (Fn.func 39) #[] #[.pointer (some ⟨c0, 0, none⟩), .pointer (some ⟨ge, 0, none⟩), .pointer (some ⟨ge + 1, 0, none⟩)]] 66 (0, 0))
theorem FBox.cells {w : World} {c0 ge : Nat} (h : FBox w c0 ge) : w.cell? ⟨ge + 1 + 1, 0, none⟩ = some (.func (Fn.func 33) #[] #[.pointer (some ⟨c0, 0, none⟩), .pointer (some ⟨ge, 0, none⟩)]) ∧ w.cell? ⟨ge + 1 + 1, 1, none⟩ = some (.func (Fn.func 34) #[] #[.pointer (some ⟨c0, 0, none⟩), .pointer (some ⟨ge, 0, none⟩)]) ∧ w.cell? ⟨ge + 1 + 1, 2, none⟩ = some (.func (Fn.func 35) #[] #[.pointer (some ⟨c0, 0, none⟩), .pointer (some ⟨ge, 0, none⟩)]) ∧ w.cell? ⟨ge + 1 + 1, 3, none⟩ = some (.func (Fn.func 36) #[] #[.pointer (some ⟨c0, 0, none⟩), .pointer (some ⟨ge, 0, none⟩)]) ∧ w.cell? ⟨ge + 1 + 1, 4, none⟩ = some (.func (Fn.func 38) #[] #[.pointer (some ⟨c0, 0, none⟩), .pointer (some ⟨ge, 0, none⟩)]) ∧ w.cell? ⟨ge + 1 + 1, 5, none⟩ = some (.func (Fn.func 39) #[] #[.pointer (some ⟨c0, 0, none⟩), .pointer (some ⟨ge, 0, none⟩), .pointer (some ⟨ge + 1, 0, none⟩)]) := by
  unfold FBox at h; simp [World.cell?, h]
/-- The loop over an event's fields. -/
def EInv (q : FR) (sq : St) (b5 : Bool) (k g c0 ge : Nat) (w : World) (iv : Value) (wr : World) : Prop :=
  ∃ (j : Nat) (rt : Bool) (vk vn : Int) (vf : Nat) (vs : ByteArray) (A : Option Addr) (m c : Nat) (sx : St) (tt : VT), iv = .int .i64 (j : Nat) ∧ j ≤ 6 ∧ PBox wr c0 g ∧ EBox wr (c0 + 1) #[.int .i64 0, .int .u64 0, .int .i64 0, .int .u64 0, .string ⟨#[]⟩, .string ⟨#[]⟩, .int .i64 0, .int .i64 0, .float .f64 0, .string ⟨#[]⟩, .slice none 0 0] ∧
    EBox wr ge (ecs q k j (.int .i64 vk) (.int .i64 vn) (.float .f64 vf) (.string vs) (.slice A m c)) ∧ RBox wr (ge + 1) rt ∧ FBox wr c0 ge ∧ RS wr g sx ∧ OnlyAt w wr g none ∧
    Rep wr (c0 + 2) wr.heap.size tt (.agg #[.int .i64 vk, .int .i64 vn, .float .f64 vf, .string vs, .slice A m c]) ∧
    (j ≤ 5 → sx = est q sq j ∧ rt = true ∧ tt = zeroT) ∧ (j = 6 → (rt = true → oval b5 q.s4 = some (sx, tt)) ∧ (rt = false → oval b5 q.s4 = none))
theorem eread_yes {s s' : St} {w w' : World} {g : Nat} {e : EV} {x : Value} (h : pe s = some (s', e)) (hrep : ERep w' w.heap.size w'.heap.size e x) (hr : RS w' g s') (ho : OnlyAt w w' g none) : ERead s w g (.returned (.tuple #[x, .bool true])) w' := by
  unfold ERead; rw [h]; exact ⟨x, rfl, hrep, hr, ho⟩
theorem fr_bounds (b0 b1 b2 b3 b4 : Bool) (s : St) (hb : Byt s.1) (hl : s.1.length ≤ 1099511627776) : (fr b0 b1 b2 b3 b4 s).i < 18446744073709551616 ∧ (fr b0 b1 b2 b3 b4 s).a < 18446744073709551616 ∧ (fr b0 b1 b2 b3 b4 s).s.size ≤ 1099511627776 ∧ (fr b0 b1 b2 b3 b4 s).t.size ≤ 1099511627776 := by
  have B0 := opt_byt (b := b0) (d := 0) hb (rUint_byt hb hl).1
  have L0 := Nat.le_trans (opt_len (b := b0) (d := 0) (rUint_le s)) hl
  have V0 := opt_lt (b := b0) hb
  simp only [fr]
  generalize opt b0 0 rUint s = r0 at *
  have B1 := opt_byt (b := b1) (d := 0) B0 (rUint_byt B0 L0).1
  have L1 := Nat.le_trans (opt_len (b := b1) (d := 0) (rUint_le r0.1)) L0
  generalize opt b1 0 rUint r0.1 = r1 at *
  have B2 := opt_byt (b := b2) (d := 0) B1 (rUint_byt B1 L1).1
  have L2 := Nat.le_trans (opt_len (b := b2) (d := 0) (rUint_le r1.1)) L1
  have V2 := opt_lt (b := b2) B1
  generalize opt b2 0 rUint r1.1 = r2 at *
  have B3 := opt_byt (b := b3) (d := (⟨#[]⟩ : ByteArray)) (p := rText) B2 (rBytes_byt B2 L2).1
  have L3 := Nat.le_trans (opt_len (b := b3) (d := (⟨#[]⟩ : ByteArray)) (p := rText) (rBytes_le r2.1)) L2
  have V3 := opt_size (b := b3) B2 L2
  generalize opt b3 (⟨#[]⟩ : ByteArray) rText r2.1 = r3 at *
  have V4 := opt_size (b := b4) B3 L3
  exact ⟨V0, V2, V3, V4⟩
theorem erep_set11 {W : World} {b lo hi lo' : Nat} {e : EV} {x : Value} (h : ERep W lo hi e x) (hz : hi ≤ W.heap.size) (hb : b < lo) (hlo : lo' ≤ lo) (d0 d1 d2 d3 d4 d5 d6 d7 d8 d9 d10 : Value) :
    ERep (set11 W b d0 d1 d2 d3 d4 d5 d6 d7 d8 d9 d10) lo' (set11 W b d0 d1 d2 d3 d4 d5 d6 d7 d8 d9 d10).heap.size e x := by
  obtain ⟨hf, vk, vn, vf, vs, A, m, c, heq, hrep⟩ := h
  refine ⟨hf, vk, vn, vf, vs, A, m, c, heq, ?_⟩
  rw [set11_size]
  exact (hrep.keep fun q o h1 h2 => World.cell?_of_block (a := ⟨q, o, none⟩) (set11_other W b q d0 d1 d2 d3 d4 d5 d6 d7 d8 d9 d10 (by omega))).more hlo hz
theorem rep_zero {w : World} {lo hi lo' hi' : Nat} {tt : VT} {v : Value} (h : tt = zeroT) (hr : Rep w lo hi tt v) (w' : World) : Rep w' lo' hi' tt v := by
  subst h
  unfold zeroT at hr ⊢
  obtain ⟨A, cap, rfl, ho, hl, -⟩ := hr.head
  exact Rep.close ho hl ⟨fun hp => absurd hp (by simp)⟩
set_option maxRecDepth 100000 in
set_option maxHeartbeats 1000000 in
theorem er_core (g : Nat) (s : St) (w : World) (h : RS w g s) (hq0 : (rTake s 1).2 = [1] ∧ (rUint (rTake s 1).1).1.2 = false ∧ (rUint (rTake s 1).1).2 ≤ 11) (nm : ByteArray) (b0 b1 b2 b3 b4 b5 okr : Bool)
    (hof : ∀ W, Calls Tryz.prog 41 #[.int .i64 ((rUint (rTake s 1).1).2 : Nat)] W fun e w' => e = .returned (.tuple #[.agg #[.string nm, .bool b0, .bool b1, .bool b2, .bool b3, .bool b4, .bool b5], .bool okr]) ∧ Below W.heap.size W w')
    (hpe : pe s = if okr = true then pf (rUint (rTake s 1).1).2 b0 b1 b2 b3 b4 b5 (rUint (rTake s 1).1).1 else none) :
    Calls Tryz.prog 8 #[.pointer (some ⟨g, 0, none⟩)] w (ERead s w g) := by
  have hg := h.lt
  have hb := h.2.1
  have hl := h.2.2
  obtain ⟨W0, hW0⟩ : ∃ W0, W0 = (w.alloc (.cells #[.pointer (some ⟨g, 0, none⟩)] 24)).alloc (.cells #[.int .i64 0, .int .u64 0, .int .i64 0, .int .u64 0, .string ⟨#[]⟩, .string ⟨#[]⟩, .int .i64 0, .int .i64 0, .float .f64 0, .string ⟨#[]⟩, .slice none 0 0] 32) := ⟨_, rfl⟩
  have hp0 : PBox W0 w.heap.size g := by rw [hW0]; exact (heap_alloc_old _ _ (by simp)).trans (heap_alloc_new w _)
  have hx0 : EBox W0 (w.heap.size + 1) #[.int .i64 0, .int .u64 0, .int .i64 0, .int .u64 0, .string ⟨#[]⟩, .string ⟨#[]⟩, .int .i64 0, .int .i64 0, .float .f64 0, .string ⟨#[]⟩, .slice none 0 0] := by
    rw [hW0]
    have e := heap_alloc_new (w.alloc (.cells #[.pointer (some ⟨g, 0, none⟩)] 24)) (.cells #[.int .i64 0, .int .u64 0, .int .i64 0, .int .u64 0, .string ⟨#[]⟩, .string ⟨#[]⟩, .int .i64 0, .int .i64 0, .float .f64 0, .string ⟨#[]⟩, .slice none 0 0] 32)
    rw [World.size_alloc] at e
    exact e
  have hr0 : RS W0 g s := by rw [hW0]; exact rs_alloc (rs_alloc h _) _
  have ho0 : OnlyAt w W0 g none := by rw [hW0]; exact only_alloc (only_alloc (OnlyAt.of_below (Below.refl _ _)) _) _
  have hz0 : W0.heap.size = w.heap.size + 2 := by rw [hW0]; simp
  obtain ⟨c0, hc0⟩ : ∃ c0, c0 = w.heap.size := ⟨_, rfl⟩
  rw [← hc0] at hp0 hx0 hz0 hg
  have HT : Hid (Calls Tryz.prog 30 #[.pointer (some ⟨g, 0, none⟩), .int .i64 1] W0 fun r w' => ∃ x, r = .returned x ∧ BRd w' x (rTake s 1).2 ∧ RS w' g (rTake s 1).1 ∧ OnlyAt W0 w' g none) := Lib.hid (take_any g s 1 W0 hr0)
  have hl1 := rTake_len s 1
  have HP0 := Lib.hid hp0
  have HX0 := Lib.hid hx0
  have HO0 := Lib.hid ho0
  have HBY := Lib.hid (rTake_byt hb hl 1)
  have hpc := hp0.cell
  clear h hr0 hx0 ho0 hp0 hb hl
  have HQQ := Lib.hid hq0
  clear hq0
  have HOF := Lib.hid hof
  have HPE := Lib.hid hpe
  clear hof hpe
  have HFB := Lib.hid (fr_bounds b0 b1 b2 b3 b4 (rUint (rTake s 1).1).1 (rUint_byt HBY.out.1 HBY.out.2).1 (rUint_byt HBY.out.1 HBY.out.2).2)
  have HU := Lib.hid fun W (hW : RS W g (rTake s 1).1) => uint_any g (rTake s 1).1 W hW
  generalize rTake s 1 = a at *
  obtain ⟨sa, l⟩ := a
  simp only at *
  generalize rUint sa = q at *
  obtain ⟨s1, k⟩ := q
  simp only at *
  obtain ⟨q, hq⟩ : ∃ q, q = fr b0 b1 b2 b3 b4 s1 := ⟨_, rfl⟩
  obtain rfl : l = [1] := HQQ.out.1
  have hk11 : k ≤ 11 := HQQ.out.2.2
  have k1 : decide ((k : Int) > 11) = false := decide_eq_false (by omega)
  have k2 : decide ((11 : Int) < (k : Int)) = false := decide_eq_false (by omega)
  have k3 : decide (11 < k) = false := decide_eq_false (by omega)
  have hwk : IntKind.i64.wrap (k : Int) = (k : Int) := by rw [IntKind.wrap_i64]; omega
  replace hW0 := Lib.hid hW0
  have HC0 := Lib.hid hc0
  clear hc0
  go_enter Tryz.func8, Tryz.ntmps8
  go_upto_region 1 with fail
  rw [← hW0.out, ← HC0.out]
  go_wp2_with fail
  refine HT.out.mono ?_
  rintro e w1 ⟨x, rfl, hx1, hr1, ho1⟩
  have hp1 : PBox w1 c0 g := (ho1.block c0 HP0.out.lt (by omega) (by simp)).trans HP0.out
  have hX1 := ebox_only HX0.out ho1 (by omega)
  clear hpc
  have hpc := hp1.cell
  have HP1 := Lib.hid hp1
  have HX1 := Lib.hid hX1
  have HR1 := Lib.hid hr1
  have HO1 := Lib.hid (HO0.out.trans ho1)
  have HBR := Lib.hid hx1
  clear hp1 hX1 hr1 ho1 hx1
  go_wp2_with fail
  refine (HU.out _ HR1.out).mono ?_
  rintro e w2 ⟨rfl, hr2, ho2⟩
  have hp2 : PBox w2 c0 g := (ho2.block c0 HP1.out.lt (by omega) (by simp)).trans HP1.out
  have hX2 := ebox_only HX1.out ho2 (by omega)
  clear hpc
  have hpc := hp2.cell
  have HBR2 : Hid (0 < ([1] : List Nat).length → BRd w2 x [1]) := Lib.hid fun hp => brd_later HR1.out HBR.out hp ho2
  obtain ⟨A, cap, hxf⟩ := HBR.out.form
  subst hxf
  have HP2 := Lib.hid hp2
  have HX2 := Lib.hid hX2
  have HR2 := Lib.hid hr2
  have HO2 := Lib.hid (HO1.out.trans ho2)
  clear hp2 hX2 hr2 ho2
  rcases HBR2.out (by simp) with ⟨h1, -⟩ | ⟨b, off, cap2, h1, h2, h3, h4, h5⟩
  · cases h1
  · injection h1 with h1 _ h1c
    subst h1 h1c
    have c1 := h5 0 (by simp)
    simp only [Nat.add_zero, List.getElem_cons_zero] at c1
    clear h5 h2 h3
    have HOK := Lib.hid (rs_ok HR2.out)
    rw [HQQ.out.2.1] at HOK
    go_wp2_with fail
    refine HOK.out.mono ?_
    rintro e w3 ⟨rfl, rfl⟩
    have HGE2 : Hid (w.heap.size ≤ c0) := Lib.hid (by rw [HC0.out]; exact Nat.le_refl _)
    obtain ⟨ge, hge⟩ : ∃ ge, ge = w2.heap.size := ⟨_, rfl⟩
    obtain ⟨W3, hW3⟩ : ∃ W3, W3 = ((w2.alloc (.cells #[.int .i64 (k : Int), .int .u64 0, .int .i64 0, .int .u64 0, .string ⟨#[]⟩, .string ⟨#[]⟩, .int .i64 0, .int .i64 0, .float .f64 0, .string ⟨#[]⟩, .slice none 0 0] 32)).alloc (.cells #[.bool true] 4)).alloc (.cells #[.func (Fn.func 33) #[] #[.pointer (some ⟨c0, 0, none⟩), .pointer (some ⟨ge, 0, none⟩)], .func (Fn.func 34) #[] #[.pointer (some ⟨c0, 0, none⟩), .pointer (some ⟨ge, 0, none⟩)], .func (Fn.func 35) #[] #[.pointer (some ⟨c0, 0, none⟩), .pointer (some ⟨ge, 0, none⟩)], .func (Fn.func 36) #[] #[.pointer (some ⟨c0, 0, none⟩), .pointer (some ⟨ge, 0, none⟩)], .func (Fn.func 38) #[] #[.pointer (some ⟨c0, 0, none⟩), .pointer (some ⟨ge, 0, none⟩)], .func (Fn.func 39) #[] #[.pointer (some ⟨c0, 0, none⟩), .pointer (some ⟨ge, 0, none⟩), .pointer (some ⟨ge + 1, 0, none⟩)]] 66) := ⟨_, rfl⟩
    have hz3 : W3.heap.size = ge + 3 := by rw [hW3, hge]; simp
    have hb3 : Below w2.heap.size w2 W3 := by rw [hW3]; exact (((Below.refl _ _).alloc (Nat.le_refl _) _).alloc (by simp) _).alloc (by simp; omega) _
    have hE3 : EBox W3 ge #[.int .i64 (k : Int), .int .u64 0, .int .i64 0, .int .u64 0, .string ⟨#[]⟩, .string ⟨#[]⟩, .int .i64 0, .int .i64 0, .float .f64 0, .string ⟨#[]⟩, .slice none 0 0] := by rw [hW3, hge]; exact (heap_alloc_old _ _ (by simp; omega)).trans ((heap_alloc_old _ _ (by simp)).trans (heap_alloc_new _ _))
    have hB3 : RBox W3 (ge + 1) true := by
      rw [hW3, hge]
      have e := heap_alloc_new (w2.alloc (.cells #[.int .i64 (k : Int), .int .u64 0, .int .i64 0, .int .u64 0, .string ⟨#[]⟩, .string ⟨#[]⟩, .int .i64 0, .int .i64 0, .float .f64 0, .string ⟨#[]⟩, .slice none 0 0] 32)) (.cells #[.bool true] 4)
      rw [World.size_alloc] at e
      exact (heap_alloc_old _ _ (by simp)).trans e
    have hF3 : FBox W3 c0 ge := by
      have e := heap_alloc_new ((w2.alloc (.cells #[.int .i64 (k : Int), .int .u64 0, .int .i64 0, .int .u64 0, .string ⟨#[]⟩, .string ⟨#[]⟩, .int .i64 0, .int .i64 0, .float .f64 0, .string ⟨#[]⟩, .slice none 0 0] 32)).alloc (.cells #[.bool true] 4)) (.cells #[.func (Fn.func 33) #[] #[.pointer (some ⟨c0, 0, none⟩), .pointer (some ⟨ge, 0, none⟩)], .func (Fn.func 34) #[] #[.pointer (some ⟨c0, 0, none⟩), .pointer (some ⟨ge, 0, none⟩)], .func (Fn.func 35) #[] #[.pointer (some ⟨c0, 0, none⟩), .pointer (some ⟨ge, 0, none⟩)], .func (Fn.func 36) #[] #[.pointer (some ⟨c0, 0, none⟩), .pointer (some ⟨ge, 0, none⟩)], .func (Fn.func 38) #[] #[.pointer (some ⟨c0, 0, none⟩), .pointer (some ⟨ge, 0, none⟩)], .func (Fn.func 39) #[] #[.pointer (some ⟨c0, 0, none⟩), .pointer (some ⟨ge, 0, none⟩), .pointer (some ⟨ge + 1, 0, none⟩)]] 66)
      rw [World.size_alloc, World.size_alloc, ← hge, ← hW3] at e
      exact e
    have hp3 : PBox W3 c0 g := (hb3.block c0 HP2.out.lt).trans HP2.out
    have hx3 : EBox W3 (c0 + 1) #[.int .i64 0, .int .u64 0, .int .i64 0, .int .u64 0, .string ⟨#[]⟩, .string ⟨#[]⟩, .int .i64 0, .int .i64 0, .float .f64 0, .string ⟨#[]⟩, .slice none 0 0] := HX2.out.later hb3 HX2.out.lt
    have hr3 := HR2.out.later hb3
    have ho3 := HO2.out.trans (OnlyAt.of_below hb3)
    have hgl : c0 + 1 < ge := by have := HX2.out.lt; omega
    obtain ⟨e0, e1, e2, e3, e4, e5, e6, e7, e8, e9, e10⟩ := hE3.cells
    have HE3 := Lib.hid hE3; have HB3 := Lib.hid hB3; have HF3 := Lib.hid hF3; have HP3 := Lib.hid hp3; have HX3 := Lib.hid hx3; have HR3 := Lib.hid hr3; have HO3 := Lib.hid ho3
    clear hE3 hB3 hF3 hp3 hx3 hr3 ho3 hb3 hpc
    replace hW3 := Lib.hid hW3
    have HGE := Lib.hid hge
    clear hge
    go_upto_region 8 with fail
    rw [← HGE.out, ← hW3.out]
    go_wp2_with fail
    refine (HOF.out W3).mono ?_
    rintro e w4 ⟨rfl, hb4⟩
    obtain ⟨gw, hgw⟩ : ∃ gw, gw = w4.heap.size := ⟨_, rfl⟩
    obtain ⟨W5, hW5⟩ : ∃ W5, W5 = w4.alloc (.cells #[.string nm, .bool b0, .bool b1, .bool b2, .bool b3, .bool b4, .bool b5] 69) := ⟨_, rfl⟩
    have hb5 : Below W3.heap.size W3 W5 := by rw [hW5]; exact hb4.alloc hb4.size _
    have hrow : W5.heap[gw]? = some (.cells #[.string nm, .bool b0, .bool b1, .bool b2, .bool b3, .bool b4, .bool b5] 69 (0, 0)) := by rw [hW5, hgw]; exact heap_alloc_new _ _
    have row1 : W5.cell? ⟨gw, 1, none⟩ = some (.bool b0) ∧ W5.cell? ⟨gw, 2, none⟩ = some (.bool b1) ∧ W5.cell? ⟨gw, 3, none⟩ = some (.bool b2) ∧ W5.cell? ⟨gw, 4, none⟩ = some (.bool b3) ∧ W5.cell? ⟨gw, 5, none⟩ = some (.bool b4) ∧ W5.cell? ⟨gw, 6, none⟩ = some (.bool b5) := by simp [World.cell?, hrow]
    have hstart : EInv q s1 b5 k g c0 ge w (.int .i64 0) W5 := ⟨0, true, 0, 0, 0, ⟨#[]⟩, none, 0, 0, s1, zeroT, rfl, by decide, (hb5.block c0 HP3.out.lt).trans HP3.out, HX3.out.later hb5 HX3.out.lt, HE3.out.later hb5 HE3.out.lt, (hb5.block _ HB3.out.cell.2.2).trans HB3.out, (hb5.block _ (by omega)).trans HF3.out, HR3.out.later hb5, HO3.out.trans (OnlyAt.of_below hb5), rep_leaf ⟨by decide, by decide, by decide, by decide, by decide, by decide, by decide⟩, fun _ => ⟨rfl, rfl, rfl⟩, fun h => absurd h (by decide)⟩
    obtain ⟨t1, t2, t3, t4, t5, t6⟩ := row1
    have hgw5 : gw < W5.heap.size := (Array.getElem?_eq_some_iff.1 hrow).1
    have HS := Lib.hid hstart
    clear hstart hrow hb5 hb4 e0 e1 e2 e3 e4 e5 e6 e7 e8 e9 e10
    replace hW5 := Lib.hid hW5
    have HGW := Lib.hid hgw
    clear hgw
    go_upto_region 9 with fail
    rw [← hW5.out, ← HGW.out]
    go_wp2_with fail
    clear t1 t2 t3 t4 t5 t6 hgw5
    go_loopw [54] (EInv q s1 b5 k g c0 ge w) (fun iv _ => 6 - (intOf iv).toNat)
    case atStart => exact HS.out
    case round =>
      clear HE3 HB3 HF3 HP3 HX3 HR3 HO3 HS HR2 HX2 HP2 HO2
      obtain ⟨j, rt, vk, vn, vf, vs, A, m, c, sx, tt, rfl, hj, hp, hx, he, hrb, hfb, hr, ho, hrep, hT, hE⟩ := hrel
      obtain ⟨fn0, fn1, fn2, fn3, fn4, fn5⟩ := hfb.cells
      have hlf : ge + 1 + 1 < wr.heap.size := (Array.getElem?_eq_some_iff.1 hfb).1
      have HPr := Lib.hid hp; have HXr := Lib.hid hx; have HEr := Lib.hid he; have HBr := Lib.hid hrb; have HFr := Lib.hid hfb; have HRr := Lib.hid hr; have HOr := Lib.hid ho; have HREP := Lib.hid hrep
      have hgc := HOr.out.size
      clear hp hx he hrb hfb hr ho hrep
      rcases (by omega : j = 0 ∨ j = 1 ∨ j = 2 ∨ j = 3 ∨ j = 4 ∨ j = 5 ∨ j = 6) with rfl | rfl | rfl | rfl | rfl | rfl | rfl
      · have hix := Ev.ix0 (.bool b0) (.bool b1) (.bool b2) (.bool b3) (.bool b4) (.bool b5)
        obtain ⟨hsx, hrt, htt⟩ := hT (by decide)
        clear hE hT
        cases hbb : b0 with
        | false =>
          rw [hbb] at hix
          have HQE := Lib.hid hq
          go_wp2_with fail
          refine ⟨⟨1, rt, vk, vn, vf, vs, A, m, c, sx, tt, by go_num, by decide, HPr.out, HXr.out, ?_, HBr.out, HFr.out, HRr.out, HOr.out, HREP.out, fun _ => ⟨?_, hrt, htt⟩, fun h => absurd h (by decide)⟩, by simp [intOf]⟩
          · have := HEr.out
            rw [HQE.out, hbb] at this ⊢
            exact this
          · rw [hsx, HQE.out, hbb]; rfl
        | true =>
          rw [hbb] at hix
          have HC := Lib.hid (clo_id g c0 ge sx _ _ _ _ _ _ _ _ _ _ _ wr HRr.out HPr.out HEr.out (by omega) (by omega))
          have HQE := Lib.hid hq
          go_wp2_with fail
          refine HC.out.mono ?_
          rintro e w6 ⟨rfl, hr6, he6, kp6⟩
          have hkp : ∀ b, b < wr.heap.size → b ≠ g → b ≠ ge → w6.heap[b]? = wr.heap[b]? := fun b hb h1 h2 => kp6.block b hb (by rintro (h | h); exact h1 h; exact h2 h)
          have hz6 := kp6.size
          have HR6 := Lib.hid hr6; have HE6 := Lib.hid he6
          have HP6 := Lib.hid ((hkp c0 HPr.out.lt (by omega) (by omega)).trans HPr.out)
          have HX6 := Lib.hid ((hkp (c0 + 1) HXr.out.lt (by omega) (by omega)).trans HXr.out)
          have HB6 := Lib.hid ((hkp (ge + 1) HBr.out.cell.2.2 (by omega) (by omega)).trans HBr.out)
          have HF6 := Lib.hid ((hkp (ge + 1 + 1) hlf (by omega) (by omega)).trans HFr.out)
          have HO6 := Lib.hid (Kp.only HOr.out kp6 (fun b hb h1 h2 => by have := HGE2.out; omega))
          have HREP6 : Hid (Rep w6 (c0 + 2) w6.heap.size tt (.agg #[.int .i64 vk, .int .i64 vn, .float .f64 vf, .string vs, .slice A m c])) := Lib.hid (rep_zero htt HREP.out w6)
          clear hr6 he6 kp6 hkp
          go_wp2_with fail
          refine ⟨⟨1, rt, vk, vn, vf, vs, A, m, c, _, tt, by go_num, by decide, HP6.out, HX6.out, ?_, HB6.out, HF6.out, HR6.out, HO6.out, HREP6.out, fun _ => ⟨?_, hrt, htt⟩, fun h => absurd h (by decide)⟩, by simp [intOf]⟩
          · have := HE6.out
            rw [hsx, HQE.out, hbb] at this
            rw [HQE.out, hbb]
            exact this
          · rw [hsx, HQE.out, hbb]; rfl
      · have hix := Ev.ix1 (.bool b0) (.bool b1) (.bool b2) (.bool b3) (.bool b4) (.bool b5)
        obtain ⟨hsx, hrt, htt⟩ := hT (by decide)
        clear hE hT
        cases hbb : b1 with
        | false =>
          rw [hbb] at hix
          have HQE := Lib.hid hq
          go_wp2_with fail
          refine ⟨⟨2, rt, vk, vn, vf, vs, A, m, c, sx, tt, by go_num, by decide, HPr.out, HXr.out, ?_, HBr.out, HFr.out, HRr.out, HOr.out, HREP.out, fun _ => ⟨?_, hrt, htt⟩, fun h => absurd h (by decide)⟩, by simp [intOf]⟩
          · have := HEr.out
            rw [HQE.out, hbb] at this ⊢
            exact this
          · rw [hsx, HQE.out, hbb]; rfl
        | true =>
          rw [hbb] at hix
          have HC := Lib.hid (clo_n g c0 ge sx _ _ _ _ _ _ _ _ _ _ _ wr HRr.out HPr.out HEr.out (by omega) (by omega))
          have HQE := Lib.hid hq
          go_wp2_with fail
          refine HC.out.mono ?_
          rintro e w6 ⟨rfl, hr6, he6, kp6⟩
          have hkp : ∀ b, b < wr.heap.size → b ≠ g → b ≠ ge → w6.heap[b]? = wr.heap[b]? := fun b hb h1 h2 => kp6.block b hb (by rintro (h | h); exact h1 h; exact h2 h)
          have hz6 := kp6.size
          have HR6 := Lib.hid hr6; have HE6 := Lib.hid he6
          have HP6 := Lib.hid ((hkp c0 HPr.out.lt (by omega) (by omega)).trans HPr.out)
          have HX6 := Lib.hid ((hkp (c0 + 1) HXr.out.lt (by omega) (by omega)).trans HXr.out)
          have HB6 := Lib.hid ((hkp (ge + 1) HBr.out.cell.2.2 (by omega) (by omega)).trans HBr.out)
          have HF6 := Lib.hid ((hkp (ge + 1 + 1) hlf (by omega) (by omega)).trans HFr.out)
          have HO6 := Lib.hid (Kp.only HOr.out kp6 (fun b hb h1 h2 => by have := HGE2.out; omega))
          have HREP6 : Hid (Rep w6 (c0 + 2) w6.heap.size tt (.agg #[.int .i64 vk, .int .i64 vn, .float .f64 vf, .string vs, .slice A m c])) := Lib.hid (rep_zero htt HREP.out w6)
          clear hr6 he6 kp6 hkp
          go_wp2_with fail
          refine ⟨⟨2, rt, vk, vn, vf, vs, A, m, c, _, tt, by go_num, by decide, HP6.out, HX6.out, ?_, HB6.out, HF6.out, HR6.out, HO6.out, HREP6.out, fun _ => ⟨?_, hrt, htt⟩, fun h => absurd h (by decide)⟩, by simp [intOf]⟩
          · have := HE6.out
            rw [hsx, HQE.out, hbb] at this
            rw [HQE.out, hbb]
            exact this
          · rw [hsx, HQE.out, hbb]; rfl
      · have hix := Ev.ix2 (.bool b0) (.bool b1) (.bool b2) (.bool b3) (.bool b4) (.bool b5)
        obtain ⟨hsx, hrt, htt⟩ := hT (by decide)
        clear hE hT
        cases hbb : b2 with
        | false =>
          rw [hbb] at hix
          have HQE := Lib.hid hq
          go_wp2_with fail
          refine ⟨⟨3, rt, vk, vn, vf, vs, A, m, c, sx, tt, by go_num, by decide, HPr.out, HXr.out, ?_, HBr.out, HFr.out, HRr.out, HOr.out, HREP.out, fun _ => ⟨?_, hrt, htt⟩, fun h => absurd h (by decide)⟩, by simp [intOf]⟩
          · have := HEr.out
            rw [HQE.out, hbb] at this ⊢
            exact this
          · rw [hsx, HQE.out, hbb]; rfl
        | true =>
          rw [hbb] at hix
          have HC := Lib.hid (clo_at g c0 ge sx _ _ _ _ _ _ _ _ _ _ _ wr HRr.out HPr.out HEr.out (by omega) (by omega))
          have HQE := Lib.hid hq
          go_wp2_with fail
          refine HC.out.mono ?_
          rintro e w6 ⟨rfl, hr6, he6, kp6⟩
          have hkp : ∀ b, b < wr.heap.size → b ≠ g → b ≠ ge → w6.heap[b]? = wr.heap[b]? := fun b hb h1 h2 => kp6.block b hb (by rintro (h | h); exact h1 h; exact h2 h)
          have hz6 := kp6.size
          have HR6 := Lib.hid hr6; have HE6 := Lib.hid he6
          have HP6 := Lib.hid ((hkp c0 HPr.out.lt (by omega) (by omega)).trans HPr.out)
          have HX6 := Lib.hid ((hkp (c0 + 1) HXr.out.lt (by omega) (by omega)).trans HXr.out)
          have HB6 := Lib.hid ((hkp (ge + 1) HBr.out.cell.2.2 (by omega) (by omega)).trans HBr.out)
          have HF6 := Lib.hid ((hkp (ge + 1 + 1) hlf (by omega) (by omega)).trans HFr.out)
          have HO6 := Lib.hid (Kp.only HOr.out kp6 (fun b hb h1 h2 => by have := HGE2.out; omega))
          have HREP6 : Hid (Rep w6 (c0 + 2) w6.heap.size tt (.agg #[.int .i64 vk, .int .i64 vn, .float .f64 vf, .string vs, .slice A m c])) := Lib.hid (rep_zero htt HREP.out w6)
          clear hr6 he6 kp6 hkp
          go_wp2_with fail
          refine ⟨⟨3, rt, vk, vn, vf, vs, A, m, c, _, tt, by go_num, by decide, HP6.out, HX6.out, ?_, HB6.out, HF6.out, HR6.out, HO6.out, HREP6.out, fun _ => ⟨?_, hrt, htt⟩, fun h => absurd h (by decide)⟩, by simp [intOf]⟩
          · have := HE6.out
            rw [hsx, HQE.out, hbb] at this
            rw [HQE.out, hbb]
            exact this
          · rw [hsx, HQE.out, hbb]; rfl
      · have hix := Ev.ix3 (.bool b0) (.bool b1) (.bool b2) (.bool b3) (.bool b4) (.bool b5)
        obtain ⟨hsx, hrt, htt⟩ := hT (by decide)
        clear hE hT
        cases hbb : b3 with
        | false =>
          rw [hbb] at hix
          have HQE := Lib.hid hq
          go_wp2_with fail
          refine ⟨⟨4, rt, vk, vn, vf, vs, A, m, c, sx, tt, by go_num, by decide, HPr.out, HXr.out, ?_, HBr.out, HFr.out, HRr.out, HOr.out, HREP.out, fun _ => ⟨?_, hrt, htt⟩, fun h => absurd h (by decide)⟩, by simp [intOf]⟩
          · have := HEr.out
            rw [HQE.out, hbb] at this ⊢
            exact this
          · rw [hsx, HQE.out, hbb]; rfl
        | true =>
          rw [hbb] at hix
          have HC := Lib.hid (clo_name g c0 ge sx _ _ _ _ _ _ _ _ _ _ _ wr HRr.out HPr.out HEr.out (by omega) (by omega))
          have HQE := Lib.hid hq
          go_wp2_with fail
          refine HC.out.mono ?_
          rintro e w6 ⟨rfl, hr6, he6, kp6⟩
          have hkp : ∀ b, b < wr.heap.size → b ≠ g → b ≠ ge → w6.heap[b]? = wr.heap[b]? := fun b hb h1 h2 => kp6.block b hb (by rintro (h | h); exact h1 h; exact h2 h)
          have hz6 := kp6.size
          have HR6 := Lib.hid hr6; have HE6 := Lib.hid he6
          have HP6 := Lib.hid ((hkp c0 HPr.out.lt (by omega) (by omega)).trans HPr.out)
          have HX6 := Lib.hid ((hkp (c0 + 1) HXr.out.lt (by omega) (by omega)).trans HXr.out)
          have HB6 := Lib.hid ((hkp (ge + 1) HBr.out.cell.2.2 (by omega) (by omega)).trans HBr.out)
          have HF6 := Lib.hid ((hkp (ge + 1 + 1) hlf (by omega) (by omega)).trans HFr.out)
          have HO6 := Lib.hid (Kp.only HOr.out kp6 (fun b hb h1 h2 => by have := HGE2.out; omega))
          have HREP6 : Hid (Rep w6 (c0 + 2) w6.heap.size tt (.agg #[.int .i64 vk, .int .i64 vn, .float .f64 vf, .string vs, .slice A m c])) := Lib.hid (rep_zero htt HREP.out w6)
          clear hr6 he6 kp6 hkp
          go_wp2_with fail
          refine ⟨⟨4, rt, vk, vn, vf, vs, A, m, c, _, tt, by go_num, by decide, HP6.out, HX6.out, ?_, HB6.out, HF6.out, HR6.out, HO6.out, HREP6.out, fun _ => ⟨?_, hrt, htt⟩, fun h => absurd h (by decide)⟩, by simp [intOf]⟩
          · have := HE6.out
            rw [hsx, HQE.out, hbb] at this
            rw [HQE.out, hbb]
            exact this
          · rw [hsx, HQE.out, hbb]; rfl
      · have hix := Ev.ix4 (.bool b0) (.bool b1) (.bool b2) (.bool b3) (.bool b4) (.bool b5)
        obtain ⟨hsx, hrt, htt⟩ := hT (by decide)
        clear hE hT
        cases hbb : b4 with
        | false =>
          rw [hbb] at hix
          have HQE := Lib.hid hq
          go_wp2_with fail
          refine ⟨⟨5, rt, vk, vn, vf, vs, A, m, c, sx, tt, by go_num, by decide, HPr.out, HXr.out, ?_, HBr.out, HFr.out, HRr.out, HOr.out, HREP.out, fun _ => ⟨?_, hrt, htt⟩, fun h => absurd h (by decide)⟩, by simp [intOf]⟩
          · have := HEr.out
            rw [HQE.out, hbb] at this ⊢
            exact this
          · rw [hsx, HQE.out, hbb]; rfl
        | true =>
          rw [hbb] at hix
          have HC := Lib.hid (clo_text g c0 ge sx _ _ _ _ _ _ _ _ _ _ _ wr HRr.out HPr.out HEr.out (by omega) (by omega))
          have HQE := Lib.hid hq
          go_wp2_with fail
          refine HC.out.mono ?_
          rintro e w6 ⟨rfl, hr6, he6, kp6⟩
          have hkp : ∀ b, b < wr.heap.size → b ≠ g → b ≠ ge → w6.heap[b]? = wr.heap[b]? := fun b hb h1 h2 => kp6.block b hb (by rintro (h | h); exact h1 h; exact h2 h)
          have hz6 := kp6.size
          have HR6 := Lib.hid hr6; have HE6 := Lib.hid he6
          have HP6 := Lib.hid ((hkp c0 HPr.out.lt (by omega) (by omega)).trans HPr.out)
          have HX6 := Lib.hid ((hkp (c0 + 1) HXr.out.lt (by omega) (by omega)).trans HXr.out)
          have HB6 := Lib.hid ((hkp (ge + 1) HBr.out.cell.2.2 (by omega) (by omega)).trans HBr.out)
          have HF6 := Lib.hid ((hkp (ge + 1 + 1) hlf (by omega) (by omega)).trans HFr.out)
          have HO6 := Lib.hid (Kp.only HOr.out kp6 (fun b hb h1 h2 => by have := HGE2.out; omega))
          have HREP6 : Hid (Rep w6 (c0 + 2) w6.heap.size tt (.agg #[.int .i64 vk, .int .i64 vn, .float .f64 vf, .string vs, .slice A m c])) := Lib.hid (rep_zero htt HREP.out w6)
          clear hr6 he6 kp6 hkp
          go_wp2_with fail
          refine ⟨⟨5, rt, vk, vn, vf, vs, A, m, c, _, tt, by go_num, by decide, HP6.out, HX6.out, ?_, HB6.out, HF6.out, HR6.out, HO6.out, HREP6.out, fun _ => ⟨?_, hrt, htt⟩, fun h => absurd h (by decide)⟩, by simp [intOf]⟩
          · have := HE6.out
            rw [hsx, HQE.out, hbb] at this
            rw [HQE.out, hbb]
            exact this
          · rw [hsx, HQE.out, hbb]; rfl
      · have hix := Ev.ix5 (.bool b0) (.bool b1) (.bool b2) (.bool b3) (.bool b4) (.bool b5)
        obtain ⟨hsx, hrt, htt⟩ := hT (by decide)
        clear hE hT
        have hsx4 : sx = q.s4 := hsx
        cases hbb : b5 with
        | false =>
          rw [hbb] at hix
          go_wp2_with fail
          refine ⟨⟨6, rt, vk, vn, vf, vs, A, m, c, sx, tt, by go_num, by decide, HPr.out, HXr.out, HEr.out, HBr.out, HFr.out, HRr.out, HOr.out, HREP.out, fun h => absurd h (by decide), fun _ => ⟨fun _ => ?_, fun h => ?_⟩⟩, by simp [intOf]⟩
          · rw [← hsx4, htt]; rfl
          · rw [hrt] at h; cases h
        | true =>
          rw [hbb] at hix
          have HC := Lib.hid (clo_val g c0 ge (ge + 1) sx rt _ _ _ _ _ _ _ _ _ _ _ wr HRr.out HPr.out HEr.out HBr.out (by omega) (by omega) (by omega) (by omega))
          go_wp2_with fail
          refine HC.out.mono ?_
          rintro e w6 ⟨rfl, okb, vk2, vn2, vf2, vs2, A2, m2, c2, t2, s2, hr6, he6, hb6, hrep6, hyes, hno, kp6⟩
          have hkp : ∀ b, b < wr.heap.size → b ≠ g → b ≠ ge → b ≠ ge + 1 → w6.heap[b]? = wr.heap[b]? := fun b hb h1 h2 h3 => kp6.block b hb (by rintro (h | h | h); exact h1 h; exact h2 h; exact h3 h)
          have hz6 := kp6.size
          have HR6 := Lib.hid hr6; have HE6 := Lib.hid he6; have HB6 := Lib.hid hb6; have HREP6 := Lib.hid (hrep6.more (show c0 + 2 ≤ wr.heap.size by omega) (Nat.le_refl _))
          have HP6 := Lib.hid ((hkp c0 HPr.out.lt (by omega) (by omega) (by omega)).trans HPr.out)
          have HX6 := Lib.hid ((hkp (c0 + 1) HXr.out.lt (by omega) (by omega) (by omega)).trans HXr.out)
          have HF6 := Lib.hid ((hkp (ge + 1 + 1) hlf (by omega) (by omega) (by omega)).trans HFr.out)
          have HO6 := Lib.hid (Kp.only HOr.out kp6 (fun b hb h1 h2 => by have := HGE2.out; omega))
          have HY := Lib.hid hyes; have HN := Lib.hid hno
          clear hr6 he6 kp6 hkp hb6 hrep6 hyes hno
          go_wp2_with fail
          refine ⟨⟨6, okb, vk2, vn2, vf2, vs2, A2, m2, c2, s2, t2, by go_num, by decide, HP6.out, HX6.out, HE6.out, HB6.out, HF6.out, HR6.out, HO6.out, HREP6.out, fun h => absurd h (by decide), fun _ => ⟨fun h => ?_, fun h => ?_⟩⟩, by simp [intOf]⟩
          · rw [← hsx4]; exact HY.out h
          · rw [← hsx4]; exact HN.out h
      · obtain ⟨hyes, hno⟩ := hE rfl
        clear hT hE
        have HQE := Lib.hid hq
        obtain ⟨ii, hii⟩ : ∃ ii, ii = q.i := ⟨_, rfl⟩
        obtain ⟨nn, hnn⟩ : ∃ nn, nn = min q.n 2147483648 := ⟨_, rfl⟩
        obtain ⟨aa, haa⟩ : ∃ aa, aa = q.a := ⟨_, rfl⟩
        obtain ⟨ss, hss⟩ : ∃ ss, ss = q.s := ⟨_, rfl⟩
        obtain ⟨tx, htx⟩ : ∃ tx, tx = q.t := ⟨_, rfl⟩
        have he6 : EBox wr ge #[.int .i64 (k : Nat), .int .u64 (ii : Nat), .int .i64 (nn : Nat), .int .u64 (aa : Nat), .string ss, .string tx, .int .i64 vk, .int .i64 vn, .float .f64 vf, .string vs, .slice A m c] := by rw [hii, hnn, haa, hss, htx]; exact HEr.out
        obtain ⟨e, he⟩ : ∃ e, e = mkE k q.i q.n q.a q.s q.t tt := ⟨_, rfl⟩
        have HPF : Hid (pf k b0 b1 b2 b3 b4 b5 s1 = match oval b5 q.s4 with | none => none | some (s5, v) => if s5.2 = true ∨ (mkE k q.i q.n q.a q.s q.t v).valid = false then none else some (s5, mkE k q.i q.n q.a q.s q.t v)) := Lib.hid (by rw [hq]; rfl)
        have hfb := HFB.out
        rw [← hq] at hfb
        have HF : Hid (FieldsOk e) := Lib.hid (by rw [he]; exact ⟨by show (-9223372036854775808 : Int) ≤ (k : Int); omega, by show (k : Int) ≤ 9223372036854775807; omega, hfb.1, by show (-9223372036854775808 : Int) ≤ ((min q.n 2147483648 : Nat) : Int); omega, by show ((min q.n 2147483648 : Nat) : Int) ≤ 9223372036854775807; omega, hfb.2.1, by show q.s.size ≤ maxLen; simp only [maxLen]; omega, by show q.t.size ≤ maxLen; simp only [maxLen]; omega⟩)
        have HEC : Hid (Value.agg #[.int .i64 (k : Nat), .int .u64 (ii : Nat), .int .i64 (nn : Nat), .int .u64 (aa : Nat), .string ss, .string tx, .int .i64 vk, .int .i64 vn, .float .f64 vf, .string vs, .slice A m c] = .agg (evCells e vk vn vf vs A m c)) := Lib.hid (by rw [hii, hnn, haa, hss, htx, he]; rfl)
        have HEV : Hid (e.v = tt) := Lib.hid (by rw [he]; rfl)
        have HER : Hid (∀ W, Below wr.heap.size wr W → ERep W (c0 + 2) W.heap.size e (.agg #[.int .i64 (k : Nat), .int .u64 (ii : Nat), .int .i64 (nn : Nat), .int .u64 (aa : Nat), .string ss, .string tx, .int .i64 vk, .int .i64 vn, .float .f64 vf, .string vs, .slice A m c])) := Lib.hid fun W hW => ⟨HF.out, vk, vn, vf, vs, A, m, c, HEC.out, by rw [HEV.out]; exact (HREP.out.later hW).more (Nat.le_refl _) hW.size⟩
        have HYES := Lib.hid hyes; have HNO := Lib.hid hno; have HE6 := Lib.hid he6; have HEE := Lib.hid he
        have HVAL := Lib.hid (Ev.evalid_any e wr (c0 + 2) wr.heap.size (.agg #[.int .i64 (k : Nat), .int .u64 (ii : Nat), .int .i64 (nn : Nat), .int .u64 (aa : Nat), .string ss, .string tx, .int .i64 vk, .int .i64 vn, .float .f64 vf, .string vs, .slice A m c]) (HER.out wr (Below.refl _ _)) (Nat.le_refl _))
        clear hq hii hnn haa hss htx hfb hyes hno he fn0 fn1 fn2 fn3 fn4 fn5
        obtain ⟨r0, r1, r2, r3, r4, r5, r6, r7, r8, r9, r10⟩ := HXr.out.cells
        obtain ⟨f0, f1, f2, f3, f4, f5, f6, f7, f8, f9, f10⟩ := ebox_frees HXr.out
        have hltx := HXr.out.lt
        obtain ⟨bq, bf, blt⟩ := HBr.out.cell
        have hpc := HPr.out.cell
        cases okr with
        | false =>
          have HN : Hid (pe s = none) := Lib.hid (by rw [HPE.out]; rfl)
          go_wp2_with fail
          refine bodyPost_ret (v := .tuple #[.agg #[.int .i64 0, .int .u64 0, .int .i64 0, .int .u64 0, .string ⟨#[]⟩, .string ⟨#[]⟩, .int .i64 0, .int .i64 0, .float .f64 0, .string ⟨#[]⟩, .slice none 0 0], .bool false]) (by simp [results, Tryz.results8, go_sem, r0, r1, r2, r3, r4, r5, r6, r7, r8, r9, r10]) rfl ?_
          exact eread_no HN.out (rs_set11 HRr.out (by omega) _ _ _ _ _ _ _ _ _ _ _) (only_set11 HOr.out (by rw [← HC0.out]; omega) _ _ _ _ _ _ _ _ _ _ _)
        | true =>
          have HPT : Hid (pe s = pf k b0 b1 b2 b3 b4 b5 s1) := Lib.hid (by rw [HPE.out, if_pos rfl])
          cases rt with
          | false =>
            have HN : Hid (pe s = none) := Lib.hid (by rw [HPT.out, HPF.out, HNO.out rfl])
            go_wp2_with fail
            refine bodyPost_ret (v := .tuple #[.agg #[.int .i64 0, .int .u64 0, .int .i64 0, .int .u64 0, .string ⟨#[]⟩, .string ⟨#[]⟩, .int .i64 0, .int .i64 0, .float .f64 0, .string ⟨#[]⟩, .slice none 0 0], .bool false]) (by simp [results, Tryz.results8, go_sem, r0, r1, r2, r3, r4, r5, r6, r7, r8, r9, r10]) rfl ?_
            exact eread_no HN.out (rs_set11 HRr.out (by omega) _ _ _ _ _ _ _ _ _ _ _) (only_set11 HOr.out (by rw [← HC0.out]; omega) _ _ _ _ _ _ _ _ _ _ _)
          | true =>
            have HOK := Lib.hid (rs_ok HRr.out)
            have HYY : Hid (oval b5 q.s4 = some (sx, tt)) := Lib.hid (HYES.out rfl)
            cases hbad : sx.2 with
            | true =>
              rw [hbad] at HOK
              have HN : Hid (pe s = none) := Lib.hid (by rw [HPT.out, HPF.out, HYY.out]; simp only; rw [if_pos (.inl hbad)])
              go_wp2_with fail
              refine HOK.out.mono ?_
              rintro e6 w6 ⟨rfl, rfl⟩
              go_wp2_with fail
              refine bodyPost_ret (v := .tuple #[.agg #[.int .i64 0, .int .u64 0, .int .i64 0, .int .u64 0, .string ⟨#[]⟩, .string ⟨#[]⟩, .int .i64 0, .int .i64 0, .float .f64 0, .string ⟨#[]⟩, .slice none 0 0], .bool false]) (by simp [results, Tryz.results8, go_sem, r0, r1, r2, r3, r4, r5, r6, r7, r8, r9, r10]) rfl ?_
              exact eread_no HN.out (rs_set11 HRr.out (by omega) _ _ _ _ _ _ _ _ _ _ _) (only_set11 HOr.out (by rw [← HC0.out]; omega) _ _ _ _ _ _ _ _ _ _ _)
            | false =>
              rw [hbad] at HOK
              obtain ⟨e0, e1, e2, e3, e4, e5, e6, e7, e8, e9, e10⟩ := HE6.out.cells
              go_wp2_with fail
              refine HOK.out.mono ?_
              rintro x6 w6 ⟨rfl, rfl⟩
              go_wp2_with fail
              refine HVAL.out.mono ?_
              rintro x6 w7 ⟨rfl, hb7⟩
              have hx7 := HXr.out.later hb7 HXr.out.lt
              have he7 := HE6.out.later hb7 HE6.out.lt
              clear r0 r1 r2 r3 r4 r5 r6 r7 r8 r9 r10 f0 f1 f2 f3 f4 f5 f6 f7 f8 f9 f10 hltx e0 e1 e2 e3 e4 e5 e6 e7 e8 e9 e10
              obtain ⟨r0, r1, r2, r3, r4, r5, r6, r7, r8, r9, r10⟩ := hx7.cells
              obtain ⟨f0, f1, f2, f3, f4, f5, f6, f7, f8, f9, f10⟩ := ebox_frees hx7
              have hltx := hx7.lt
              obtain ⟨e0, e1, e2, e3, e4, e5, e6, e7, e8, e9, e10⟩ := he7.cells
              have helt := he7.lt
              have HR7 := Lib.hid (HRr.out.later hb7)
              have HO7 := Lib.hid (HOr.out.trans (OnlyAt.of_below hb7))
              have HB7 := Lib.hid hb7
              clear hb7 hx7 he7 bq bf blt hpc
              have hn1 : ¬ (ge = c0 + 1) := by omega
              have hn2 : ¬ (c0 + 1 = ge) := by omega
              cases hval : e.valid with
              | false =>
                have HN : Hid (pe s = none) := Lib.hid (by rw [HPT.out, HPF.out, HYY.out]; simp only; rw [if_pos (.inr (by rw [← HEE.out]; exact hval))])
                go_wp2_with fail
                refine bodyPost_ret (v := .tuple #[.agg #[.int .i64 0, .int .u64 0, .int .i64 0, .int .u64 0, .string ⟨#[]⟩, .string ⟨#[]⟩, .int .i64 0, .int .i64 0, .float .f64 0, .string ⟨#[]⟩, .slice none 0 0], .bool false]) (by simp [results, Tryz.results8, go_sem, r0, r1, r2, r3, r4, r5, r6, r7, r8, r9, r10]) rfl ?_
                exact eread_no HN.out (rs_set11 HR7.out (by omega) _ _ _ _ _ _ _ _ _ _ _) (only_set11 HO7.out (by rw [← HC0.out]; omega) _ _ _ _ _ _ _ _ _ _ _)
              | true =>
                have HY : Hid (pe s = some (sx, e)) := Lib.hid (by rw [HPT.out, HPF.out, HYY.out]; simp only; rw [if_neg (by rw [hbad, ← HEE.out, hval]; simp), ← HEE.out])
                go_wp2_with fail
                refine bodyPost_ret (v := .tuple #[.agg #[.int .i64 (k : Nat), .int .u64 (ii : Nat), .int .i64 (nn : Nat), .int .u64 (aa : Nat), .string ss, .string tx, .int .i64 vk, .int .i64 vn, .float .f64 vf, .string vs, .slice A m c], .bool true]) (by simp [results, Tryz.results8, go_sem, r0, r1, r2, r3, r4, r5, r6, r7, r8, r9, r10]) rfl ?_
                have h9 := HER.out w7 HB7.out
                have hcw : w.heap.size ≤ c0 := HGE2.out
                refine eread_yes HY.out ?_ (rs_set11 (b := c0 + 1) HR7.out (by omega) _ _ _ _ _ _ _ _ _ _ _) (only_set11 (b := c0 + 1) HO7.out (by omega) _ _ _ _ _ _ _ _ _ _ _)
                exact erep_set11 h9 (Nat.le_refl _) (by omega) (by rw [← HC0.out]; omega) _ _ _ _ _ _ _ _ _ _ _

theorem eread_any (g : Nat) (s : St) (w : World) (h : RS w g s) : Calls Tryz.prog 8 #[.pointer (some ⟨g, 0, none⟩)] w (ERead s w g) := by
  by_cases hq : (rTake s 1).2 ≠ [1] ∨ (rUint (rTake s 1).1).1.2 = true ∨ 11 < (rUint (rTake s 1).1).2
  · exact er_bad g s w h hq
  · have h1 : (rTake s 1).2 = [1] := by
      cases hh : decide ((rTake s 1).2 = [1]) with
      | true => simpa using hh
      | false => exact absurd (.inl (by simpa using hh)) hq
    have h2 : (rUint (rTake s 1).1).1.2 = false := bool_of fun hh => hq (.inr (.inl hh))
    have h3 : (rUint (rTake s 1).1).2 ≤ 11 := by have := fun hh => hq (.inr (.inr hh)); omega
    have hpe : pe s = pf (rUint (rTake s 1).1).2 ((fieldsOf (rUint (rTake s 1).1).2).contains 0) ((fieldsOf (rUint (rTake s 1).1).2).contains 1) ((fieldsOf (rUint (rTake s 1).1).2).contains 2) ((fieldsOf (rUint (rTake s 1).1).2).contains 3) ((fieldsOf (rUint (rTake s 1).1).2).contains 4) ((fieldsOf (rUint (rTake s 1).1).2).contains 5) (rUint (rTake s 1).1).1 := by
      unfold pe
      simp only
      rw [if_neg hq]
    by_cases hk : 1 ≤ (rUint (rTake s 1).1).2
    · exact er_core g s w h ⟨h1, h2, h3⟩ (Ev.nameOf (rUint (rTake s 1).1).2) _ _ _ _ _ _ true (fun W => Ev.of_in _ hk h3 W) (by rw [if_pos rfl]; exact hpe)
    · have hk0 : (rUint (rTake s 1).1).2 = 0 := by omega
      refine er_core g s w h ⟨h1, h2, h3⟩ ⟨#[]⟩ false false false false false false false (fun W => by rw [hk0]; exact Ev.of_out _ (.inl (by decide)) W) ?_
      rw [if_neg (by simp), hpe, hk0]
      unfold pf
      simp only
      split
      · rfl
      · rw [if_pos]
        refine .inr ?_
        show (mkE 0 _ _ _ _ _ _).valid = false
        unfold EV.valid mkE
        simp
end Rd
end Go.Proofs.YtcbddebmmaflgaaGreatDoor
namespace Go.Proofs.YtcbddebmmaflgaaGreatDoor
open Go.RowKit
set_option linter.unusedVariables false
set_option linter.unusedSimpArgs false
namespace Rd
open Vt (VT Rep)
open Ev (EV FieldsOk ERep evCells vCells)
open Cm (OnlyAt rowOf EvsIn)
open Cn (ERow ECell own_lt)

def GCell (w : World) (g : Nat) (ro : Option Nat) (xs : List Value) (i : Nat) (e : EV) : Prop := ∃ lo hi vk vn vf vs A m c, g < lo ∧ FieldsOk e ∧ Rep w lo hi e.v (vCells vk vn vf vs A m c) ∧ hi ≤ w.heap.size ∧ (∀ r, ro = some r → r < lo ∨ hi ≤ r) ∧
  ∀ j, j < 11 → xs[i * 11 + j]? = (evCells e vk vn vf vs A m c)[j]?
def GRow (w : World) (g : Nat) (A : Option Addr) (cap n : Nat) (es : List EV) : Prop := es.length = n ∧ ∃ xs, w.ownsRow (g + 1) 32 11 (.slice A n cap) n xs ∧ ∀ i (h : i < es.length), GCell w g (rowOf A) xs i es[i]
theorem GRow.erow {w : World} {g : Nat} {A : Option Addr} {cap n : Nat} {es : List EV} (h : GRow w g A cap n es) : ERow w (g + 1) A cap n es := by
  obtain ⟨h0, xs, h1, h3⟩ := h
  refine ⟨h0, xs, h1, fun i hi => ?_⟩
  obtain ⟨lo, hi', vk, vn, vf, vs, A, m, c, -, h1, h2, h3, h5, h6⟩ := h3 i hi
  exact ⟨lo, hi', vk, vn, vf, vs, A, m, c, h1, h2, h3, h5, h6⟩
theorem grow_nil (w : World) (g : Nat) : GRow w g none 0 0 [] := ⟨rfl, [], ⟨rfl, .inl ⟨rfl, rfl⟩⟩, fun i h => absurd h (by simp)⟩
theorem GCell.keep {w w' : World} {g : Nat} {ro : Option Nat} {xs : List Value} {i : Nat} {e : EV} (h : GCell w g ro xs i e) (hz : w.heap.size ≤ w'.heap.size) (ho : ∀ b, g < b → b < w.heap.size → some b ≠ ro → w'.heap[b]? = w.heap[b]?) : GCell w' g ro xs i e := by
  obtain ⟨lo, hi, vk, vn, vf, vs, A, m, c, h0, h1, h2, h3, h5, h6⟩ := h
  refine ⟨lo, hi, vk, vn, vf, vs, A, m, c, h0, h1, h2.keep fun b o hb1 hb2 => ?_, Nat.le_trans h3 hz, h5, h6⟩
  exact World.cell?_of_block (a := ⟨b, o, none⟩) (ho b (by omega) (by omega) (fun e => by have := h5 b e.symm; omega))
theorem GRow.only {w w' : World} {g : Nat} {A : Option Addr} {cap n : Nat} {es : List EV} (h : GRow w g A cap n es) (hz : w.heap.size ≤ w'.heap.size) (hk : ∀ b, g < b → b < w.heap.size → w'.heap[b]? = w.heap[b]?) : GRow w' g A cap n es := by
  obtain ⟨h0, xs, h1, h3⟩ := h
  refine ⟨h0, xs, ⟨h1.1, ?_⟩, fun i hi => (h3 i hi).keep hz fun b h1 h2 _ => hk b h1 h2⟩
  rcases h1.2 with h | ⟨r, cp, cur, q1, q2, q3, q4⟩
  · exact .inl h
  · exact .inr ⟨r, cp, cur, q1, q2, (hk r (by omega) (Array.getElem?_eq_some_iff.1 q3).1).trans q3, q4⟩
theorem GRow.lt {w : World} {g : Nat} {A : Option Addr} {cap n : Nat} {es : List EV} (h : GRow w g A cap n es) : ∀ r, rowOf A = some r → r < w.heap.size ∧ g + 1 ≤ r := by
  obtain ⟨-, xs, h1, -⟩ := h
  exact own_lt h1
theorem GRow.push {W w' : World} {g r H : Nat} {A : Option Addr} {cap cap' n : Nat} {es : List EV} {e : EV} {xs : List Value} {lo hi : Nat} {vk vn : Int} {vf : Nat} {vs : ByteArray} {A' : Option Addr} {m c : Nat}
    (hlen : es.length = n) (hlx : xs.length = n * 11) (hx : ∀ i (h : i < es.length), GCell W g (rowOf A) xs i es[i]) (hg : g < lo) (hf : FieldsOk e) (hv : Rep W lo hi e.v (vCells vk vn vf vs A' m c)) (hz : hi ≤ W.heap.size) (hrr : ∀ r, rowOf A = some r → r < lo ∨ hi ≤ r)
    (hown : w'.ownsRow (g + 1) 32 11 (.slice (some ⟨r, 0, none⟩) (n + 1) cap') (n + 1) (xs ++ (evCells e vk vn vf vs A' m c).toList)) (hgrow : W.grownBy w' (rowOf A)) (hat : rowOf A = some r ∨ r = H) (hH : W.heap.size ≤ H) :
    GRow w' g (some ⟨r, 0, none⟩) cap' (n + 1) (es ++ [e]) := by
  have key : ∀ {lo hi : Nat}, hi ≤ W.heap.size → (∀ r, rowOf A = some r → r < lo ∨ hi ≤ r) → ∀ r2, rowOf (some ⟨r, 0, none⟩) = some r2 → r2 < lo ∨ hi ≤ r2 := by
    intro lo hi h1 h2 r2 hr2
    obtain rfl : r = r2 := Option.some.inj hr2
    rcases hat with h | h
    · exact h2 r h
    · omega
  refine ⟨by simp [hlen], _, hown, fun i hil => ?_⟩
  simp at hil
  by_cases hlt : i < es.length
  · rw [List.getElem_append_left hlt]
    obtain ⟨lo', hi', vk', vn', vf', vs', A2', m', c', q0, q1, q2, q3, q5, q6⟩ := hx i hlt
    refine ⟨lo', hi', vk', vn', vf', vs', A2', m', c', q0, q1, q2.keep fun b o hb1 hb2 => ?_, Nat.le_trans q3 hgrow.size, key q3 q5, fun j hj => (List.getElem?_append_left (by omega)).trans (q6 j hj)⟩
    exact World.cell?_of_block (a := ⟨b, o, none⟩) (hgrow.block b (by omega) (fun e => by have := q5 b e.symm; omega))
  · obtain rfl : i = es.length := by omega
    rw [List.getElem_append_right (Nat.le_refl _)]
    simp only [Nat.sub_self, List.getElem_cons_zero]
    refine ⟨lo, hi, vk, vn, vf, vs, A', m, c, hg, hf, hv.keep fun b o hb1 hb2 => ?_, Nat.le_trans hz hgrow.size, key hz hrr, fun j hj => ?_⟩
    · exact World.cell?_of_block (a := ⟨b, o, none⟩) (hgrow.block b (by omega) (fun e => by have := hrr b e.symm; omega))
    · rw [List.getElem?_append_right (by omega), hlx, hlen, Nat.add_sub_cancel_left, Array.getElem?_toList]
end Rd
end Go.Proofs.YtcbddebmmaflgaaGreatDoor
namespace Go.Proofs.YtcbddebmmaflgaaGreatDoor
open Go.RowKit
set_option linter.unusedVariables false
set_option linter.unusedSimpArgs false
namespace Rd
open _root_.Go.Proofs.YtcbddebmmaflgaaGreatDoor.Nm (bitsW ofW okW)
open Bt (ubytes sb sb_len sel)
open Vt (VT)
open Ev (EV fieldsOf FieldsOk zeroT)
open Cm (evSame evsSame)
open Cn (bvalid bform wrongE)
open Pf (sform)
open Vf (VE ve_of eform hasF sel6 evSame_parts)

theorem opt_of {α : Type} {b : Bool} {d x : α} {p : St → St × α} {F : α → List Nat} {r : List Nat} (hp : b = true → p (F x ++ r, false) = ((r, false), x)) (hd : b = false → x = d) :
    opt b d p ((if b then F x else []) ++ r, false) = ((r, false), x) := by
  cases b with
  | true => simpa [opt] using hp rfl
  | false => simp [opt]; exact (hd rfl).symm
theorem rText_of {s : ByteArray} (hs : s.size < 18446744073709551616) (r : List Nat) : rText (sform s ++ r, false) = ((r, false), s) := by
  unfold rText
  rw [rBytes_of hs, strOf_sb]
theorem same_zero {a b : VT} (h : a.same b = true) : a.same zeroT = b.same zeroT := by
  rw [Bool.eq_iff_iff]
  exact ⟨fun k => Vt.same_trans _ _ _ (Vt.same_symm _ _ h) k, fun k => Vt.same_trans _ _ _ h k⟩
theorem valid_same {a b : EV} (h : evSame a b = true) : a.valid = b.valid := by
  obtain ⟨h1, h2, h3, h4, h5, h6, h7⟩ := evSame_parts h
  unfold EV.valid Ev.goodL
  rw [h1, h2, h3, h4, h5, h6, Vt.same_valid _ _ 8 h7, same_zero h7]
theorem pe_of (e : EV) (hg : GoodE e) (r : List Nat) : ∃ e', pe (eform e ++ r, false) = some ((r, false), e') ∧ evSame e e' = true := by
  obtain ⟨hval, hf, hfine⟩ := hg
  have hve := ve_of hval
  have k1 := hve.k1; have k2 := hve.k2
  have hk : ((e.k.toNat : Nat) : Int) = e.k := by omega
  unfold eform
  rw [sel6]
  simp only [List.append_assoc]
  unfold pe
  simp only
  have hT : ∀ l : List Nat, rTake ([1] ++ l, false) 1 = ((l, false), [1]) := fun l => rTake_of [1] l
  rw [hT, rUint_of (x := e.k.toNat) (by omega)]
  simp only
  rw [if_neg (by simp; omega)]
  have hc : ∀ j, (fieldsOf e.k.toNat).contains j = hasF e j := fun j => rfl
  rw [hc 0, hc 1, hc 2, hc 3, hc 4, hc 5]
  have n1 := hve.n1; have n2 := hve.n2; have s1 := hve.s1; have t1 := hve.t1
  have hv : ∃ v', oval (hasF e 5) ((if hasF e 5 then Pf.VT.form e.v else []) ++ r, false) = some ((r, false), v') ∧ e.v.same v' = true := by
    unfold oval
    cases hh : hasF e 5 with
    | true =>
      obtain ⟨t', h1, h2⟩ := pv_of e.v 8 r hve.v1 hfine
      exact ⟨t', by simpa using h1, h2⟩
    | false => exact ⟨zeroT, by simp, hve.v0 hh⟩
  obtain ⟨v', hv1, hv2⟩ := hv
  generalize hR5 : (if hasF e 5 = true then Pf.VT.form e.v else []) ++ r = R5 at hv1 ⊢
  have o4 := opt_of (b := hasF e 4) (d := (⟨#[]⟩ : ByteArray)) (p := rText) (F := sform) (x := e.text) (r := R5) (fun _ => rText_of (by omega) _) hve.t0
  generalize (if hasF e 4 = true then sform e.text else []) ++ R5 = R4 at o4 ⊢
  have o3 := opt_of (b := hasF e 3) (d := (⟨#[]⟩ : ByteArray)) (p := rText) (F := sform) (x := e.name) (r := R4) (fun _ => rText_of (by omega) _) hve.s0
  generalize (if hasF e 3 = true then sform e.name else []) ++ R4 = R3 at o3 ⊢
  have o2 := opt_of (b := hasF e 2) (d := 0) (p := rUint) (F := ubytes 10) (x := e.at') (r := R3) (fun _ => rUint_of hf.a1 _) hve.a0
  generalize (if hasF e 2 = true then ubytes 10 e.at' else []) ++ R3 = R2 at o2 ⊢
  have o1 := opt_of (b := hasF e 1) (d := 0) (p := rUint) (F := ubytes 10) (x := e.n.toNat) (r := R2) (fun _ => rUint_of (by omega) _) (fun h => by rw [hve.n0 h]; rfl)
  generalize (if hasF e 1 = true then ubytes 10 e.n.toNat else []) ++ R2 = R1 at o1 ⊢
  have o0 := opt_of (b := hasF e 0) (d := 0) (p := rUint) (F := ubytes 10) (x := e.id) (r := R1) (fun _ => rUint_of hf.i1 _) hve.i0
  generalize (if hasF e 0 = true then ubytes 10 e.id else []) ++ R1 = R0 at o0 ⊢
  have hfr : fr (hasF e 0) (hasF e 1) (hasF e 2) (hasF e 3) (hasF e 4) (R0, false) = ⟨(R1, false), e.id, (R2, false), e.n.toNat, (R3, false), e.at', (R4, false), e.name, (R5, false), e.text⟩ := by
    unfold fr
    simp only [o0, o1, o2, o3, o4]
  unfold pf
  rw [hfr]
  simp only
  rw [hv1]
  simp only
  have hmin : ((min e.n.toNat 2147483648 : Nat) : Int) = e.n := by omega
  have hsame : evSame e (mkE e.k.toNat e.id e.n.toNat e.at' e.name e.text v') = true := by
    simp only [evSame, mkE, hk, hmin, beq_self_eq_true, decide_true, Bool.true_and, Bool.and_true, hv2]
  rw [← valid_same hsame, hval]
  exact ⟨_, by simp, hsame⟩
theorem rep_ofE (es : List EV) (r : List Nat) (g : ∀ e ∈ es, GoodE e) : ∃ es', rep pe es.length ((es.map eform).flatten ++ r, false) = some ((r, false), es') ∧ es.length = es'.length ∧ ∀ (i : Nat) (hi : i < es.length) (hi' : i < es'.length), evSame es[i] es'[i] = true :=
  rep_of (p := pe) (F := eform) (R := fun a b => evSame a b = true) es r fun e he r => pe_of e (g e he) r
theorem evs_iff {l l' : List EV} : evsSame l l' = true ↔ l.length = l'.length ∧ ∀ (i : Nat) (hi : i < l.length) (hi' : i < l'.length), evSame l[i] l'[i] = true := by
  unfold evsSame
  rw [Bool.and_eq_true, beq_iff_eq, Vt.all_iff]
  constructor
  · rintro ⟨h, k⟩
    exact ⟨h, fun i hi hi' => by have := k i (by simp; omega); rw [List.getElem_zip] at this; exact this⟩
  · rintro ⟨h, k⟩
    exact ⟨h, fun i hi => by simp at hi; rw [List.getElem_zip]; exact k i (by omega) (by omega)⟩
theorem wrong_same {l l' : List EV} (h : evsSame l l' = true) : l.any wrongE = l'.any wrongE := by
  obtain ⟨h1, h2⟩ := evs_iff.1 h
  rw [Bool.eq_iff_iff, List.any_eq_true, List.any_eq_true]
  constructor
  · rintro ⟨x, hx, hw⟩
    obtain ⟨i, hi, rfl⟩ := List.getElem_of_mem hx
    refine ⟨l'[i]'(by omega), List.getElem_mem _, ?_⟩
    unfold wrongE at hw ⊢
    rw [← valid_same (h2 i hi (by omega))]; exact hw
  · rintro ⟨x, hx, hw⟩
    obtain ⟨i, hi, rfl⟩ := List.getElem_of_mem hx
    refine ⟨l[i]'(by omega), List.getElem_mem _, ?_⟩
    unfold wrongE at hw ⊢
    rw [valid_same (h2 i (by omega) hi)]; exact hw
theorem bvalid_same {f : ByteArray} {a : Nat} {l l' : List EV} (h : evsSame l l' = true) : bvalid f a l = bvalid f a l' := by
  unfold bvalid
  rw [wrong_same h, (evs_iff.1 h).1]
theorem pb_of {f : ByteArray} {a : Nat} {es : List EV} (hv : bvalid f a es = true) (ha : a < 18446744073709551616) (hn : es.length < 18446744073709551616) (g : ∀ e ∈ es, GoodE e) :
    ∃ es', pb (bform f a es.length (es.map eform), false) = some (f, a, es') ∧ evsSame es es' = true := by
  have hfs := bvalid_size hv
  obtain ⟨es', h1, h2, h3⟩ := rep_ofE es [] g
  have hsame := evs_iff.2 ⟨h2, h3⟩
  refine ⟨es', ?_, hsame⟩
  unfold bform
  have e1 : ubytes 10 f.size ++ sb f = sform f := rfl
  rw [e1]
  unfold pb
  simp only
  rw [rText_of (by omega)]
  simp only
  rw [rUint_of ha]
  simp only
  rw [rUint_of hn]
  simp only
  rw [List.append_nil] at h1
  rw [h1]
  simp only
  rw [← bvalid_same hsame, hv]
  simp
end Rd
end Go.Proofs.YtcbddebmmaflgaaGreatDoor
