/- A history's state: clone; what an event does. -/
/- history.try: what adding a batch would do. -/
import Derived.Laws.Rows
import Derived.Laws.IdiomRangeMap
import Derived.Test.YtkajcldmolcllaaGreatHaah
import Derived.Test.YtkajcldmolcllaaGreatHaaf
import Derived.Deep.CutRange
import Derived.Shelf.SlMaps.Clone
import Derived.Ground.SlmcProg
import Derived.Test.YtkajcldmolcllaaGreatHaan
import Derived.Test.YtkajcldmolcllaaGreatHaal
set_option linter.unusedVariables false
set_option linter.unusedSimpArgs false
open Go.RowKit
namespace Go.Proofs.YtkajcldmolcllaaGreat
open Go.RowKit Go.Shelf
def Tryz.laysClT_ren : Go.Shelf.Ren := ⟨fun | 5 => 72 | 7 => 91 | n => n, fun | 23 => 63 | 25 => 27 | 3 => 72 | 4 => 4 | 20 => 20 | n => n, fun | n => n⟩
theorem Tryz.laysClT : Go.Proofs.SlLaysW.n5 Tryz.prog Tryz.laysClT_ren := {
  mixed := by kernel_rfl
  f5 := ⟨Tryz.f72.name, by decide, Tryz.func72.trans (congrArg some (by kernel_rfl))⟩
  f7 := Tryz.func91.trans (congrArg some (by kernel_rfl))
  t4 := Tryz.underlying4
  a4 := Tryz.isAgg4
  z4 := Tryz.sizeOf4
  v4 := Tryz.zeroValue4
  t20 := Tryz.underlying20
  a20 := Tryz.isAgg20
  z20 := Tryz.sizeOf20
  v20 := Tryz.zeroValue20
  t23 := Tryz.underlying63
  a23 := Tryz.isAgg63
  z23 := Tryz.sizeOf63
  v23 := Tryz.zeroValue63 }
def Tryz.laysClM_ren : Go.Shelf.Ren := ⟨fun | 5 => 73 | 7 => 91 | n => n, fun | 23 => 64 | 25 => 27 | 3 => 82 | 4 => 4 | 20 => 20 | n => n, fun | n => n⟩
theorem Tryz.laysClM : Go.Proofs.SlLaysW.n5 Tryz.prog Tryz.laysClM_ren := {
  mixed := by kernel_rfl
  f5 := ⟨Tryz.f73.name, by decide, Tryz.func73.trans (congrArg some (by kernel_rfl))⟩
  f7 := Tryz.func91.trans (congrArg some (by kernel_rfl))
  t4 := Tryz.underlying4
  a4 := Tryz.isAgg4
  z4 := Tryz.sizeOf4
  v4 := Tryz.zeroValue4
  t20 := Tryz.underlying20
  a20 := Tryz.isAgg20
  z20 := Tryz.sizeOf20
  v20 := Tryz.zeroValue20
  t23 := Tryz.underlying64
  a23 := Tryz.isAgg64
  z23 := Tryz.sizeOf64
  v23 := Tryz.zeroValue64 }
def Tryz.laysClK_ren : Go.Shelf.Ren := ⟨fun | 5 => 74 | 7 => 91 | n => n, fun | 23 => 65 | 25 => 9 | 3 => 4 | 4 => 4 | 20 => 20 | n => n, fun | n => n⟩
theorem Tryz.laysClK : Go.Proofs.SlLaysW.n5 Tryz.prog Tryz.laysClK_ren := {
  mixed := by kernel_rfl
  f5 := ⟨Tryz.f74.name, by decide, Tryz.func74.trans (congrArg some (by kernel_rfl))⟩
  f7 := Tryz.func91.trans (congrArg some (by kernel_rfl))
  t4 := Tryz.underlying4
  a4 := Tryz.isAgg4
  z4 := Tryz.sizeOf4
  v4 := Tryz.zeroValue4
  t20 := Tryz.underlying20
  a20 := Tryz.isAgg20
  z20 := Tryz.sizeOf20
  v20 := Tryz.zeroValue20
  t23 := Tryz.underlying65
  a23 := Tryz.isAgg65
  z23 := Tryz.sizeOf65
  v23 := Tryz.zeroValue65 }
namespace Hi
open _root_.Go.Proofs.YtkajcldmolcllaaGreat.Nm (ret_int ret_bool)
open Vt (VT Rep below_drew)
open Ev (EV FieldsOk evCells vCells)
open Cm (EvsIn)
variable {X X' : Nat → Prop} {u v w w' V V' : World} {b n : Nat} {ts : List TK} {l : List (Nat × Nat)} {ks : List ByteArray}

theorem clone_t (h : TMap w V b n ts) : Calls Tryz.prog 72 #[.map (some b)] w fun e w' => e = .returned (.map (some w.heap.size)) ∧ TMap w' V w.heap.size n ts ∧ Below w.heap.size w w' ∧ w'.heap.size = w.heap.size + 1 := by
 obtain ⟨D, ⟨es, clock, hb, F⟩, h2⟩ := h
 have hcon := AnyW.maps_Clone Tryz.laysClT b es clock w hb
 change Calls Tryz.prog 72 _ _ _ at hcon
 refine hcon.mono ?_
 rintro e w' ⟨rfl, rfl⟩
 exact ⟨rfl, ⟨D, ⟨es, clock, heap_alloc_new _ _, F⟩, h2⟩, (Below.refl _ _).alloc (Nat.le_refl _) _, by simp⟩
theorem clone_m (h : MMap w b n l) : Calls Tryz.prog 73 #[.map (some b)] w fun e w' => e = .returned (.map (some w.heap.size)) ∧ MMap w' w.heap.size n l ∧ Below w.heap.size w w' ∧ w'.heap.size = w.heap.size + 1 := by
 obtain ⟨D, ⟨es, clock, hb, F⟩, h2⟩ := h
 have hcon := AnyW.maps_Clone Tryz.laysClM b es clock w hb
 change Calls Tryz.prog 73 _ _ _ at hcon
 refine hcon.mono ?_
 rintro e w' ⟨rfl, rfl⟩
 exact ⟨rfl, ⟨D, ⟨es, clock, heap_alloc_new _ _, F⟩, h2⟩, (Below.refl _ _).alloc (Nat.le_refl _) _, by simp⟩
theorem clone_k (h : KMap w b n ks) : Calls Tryz.prog 74 #[.map (some b)] w fun e w' => e = .returned (.map (some w.heap.size)) ∧ KMap w' w.heap.size n ks ∧ Below w.heap.size w w' ∧ w'.heap.size = w.heap.size + 1 := by
 obtain ⟨D, ⟨es, clock, hb, F⟩, h2⟩ := h
 have hcon := AnyW.maps_Clone Tryz.laysClK b es clock w hb
 change Calls Tryz.prog 74 _ _ _ at hcon
 refine hcon.mono ?_
 rintro e w' ⟨rfl, rfl⟩
 exact ⟨rfl, ⟨D, ⟨es, clock, heap_alloc_new _ _, F⟩, h2⟩, (Below.refl _ _).alloc (Nat.le_refl _) _, by simp⟩

def ClSt (V w : World) (n next : Nat) (closed : Int) (s : ST) (W : World) : Prop := ∃ ct cm ck, W.heap[w.heap.size]? = some (.cells (stC ct cm ck next closed) 67 (0, 0)) ∧ W.heap[w.heap.size + 1]? = some (.cells #[.map none, .map none, .map none, .int .u64 0, .int .i64 0] 67 (0, 0)) ∧
 Maps3 W V ct cm ck n s ∧ Below w.heap.size w W ∧ (w.heap.size + 2 ≤ ct ∧ w.heap.size + 2 ≤ cm ∧ w.heap.size + 2 ≤ ck) ∧ ct ≠ cm ∧ ct ≠ ck ∧ cm ≠ ck
theorem done_cl {W0 W1 W2 W3 : World} {s : ST} {bt bm bk next : Nat} {closed : Int} (gz : W0.heap.size = w.heap.size + 2) (gb : Below w.heap.size w W0) (h3 : Below W0.heap.size W0 W3)
  (hg : W3.heap[w.heap.size]? = some (.cells (stC bt bm bk next closed) 67 (0, 0)) ∧ W3.heap[w.heap.size + 1]? = some (.cells #[.map none, .map none, .map none, .int .u64 0, .int .i64 0] 67 (0, 0)))
  (m1 : TMap W1 V W0.drew.heap.size n s.tasks) (m2 : MMap W2 W1.heap.size n s.timers) (m3 : KMap W3 W2.heap.size n s.keys) (s1 : W1.heap.size = W0.drew.heap.size + 1) (s2 : W2.heap.size = W1.heap.size + 1) (s3 : W3.heap.size = W2.heap.size + 1)
  (q2 : Below W1.heap.size W1 W2) (q3 : Below W2.heap.size W2 W3) :
  ClSt V w n next closed s (((W3.setCell ⟨w.heap.size, 0, none⟩ (.map (some W0.heap.size))).setCell ⟨w.heap.size, 1, none⟩ (.map (some W1.heap.size))).setCell ⟨w.heap.size, 2, none⟩ (.map (some W2.heap.size))) := by
 have e0 : W0.drew.heap.size = W0.heap.size := rfl
 rw [e0] at m1 s1
 have hset : ∀ k : Nat, k ≠ w.heap.size → (((W3.setCell ⟨w.heap.size, 0, none⟩ (.map (some W0.heap.size))).setCell ⟨w.heap.size, 1, none⟩ (.map (some W1.heap.size))).setCell ⟨w.heap.size, 2, none⟩ (.map (some W2.heap.size))).heap[k]? = W3.heap[k]? := fun k hk => by
  rw [RowKit.Below.heap_setCell _ _ _ _ hk, RowKit.Below.heap_setCell _ _ _ _ hk, RowKit.Below.heap_setCell _ _ _ _ hk]
 refine ⟨W0.heap.size, W1.heap.size, W2.heap.size, ?_, (hset _ (by omega)).trans hg.2, ⟨m1.keep ?_ (Leads.refl V), m2.keep ?_, m3.keep (hset _ (by omega))⟩, ?_, ⟨by omega, by omega, by omega⟩, by omega, by omega, by omega⟩
 ·simp [World.setCell, Array.getElem?_modify, hg.1, stC]
 ·exact (hset _ (by omega)).trans ((q3.block _ (by omega)).trans (q2.block _ (by omega)))
 ·exact (hset _ (by omega)).trans (q3.block _ (by omega))
 ·exact (((gb.trans (h3.mono gb.size)).setCell (Nat.le_refl _) _).setCell (Nat.le_refl _) _).setCell (Nat.le_refl _) _
set_option maxRecDepth 100000 in
set_option maxHeartbeats 12000000 in
theorem stclone_any (bt bm bk n : Nat) (s : ST) (next : Nat) (closed : Int) (w V : World) (h : Maps3 w V bt bm bk n s) :
  Calls Tryz.prog 49 #[.agg #[.map (some bt), .map (some bm), .map (some bk), .int .u64 (next : Nat), .int .i64 closed]] w fun e w' => ∃ ct cm ck, e = .returned (.agg #[.map (some ct), .map (some cm), .map (some ck), .int .u64 (next : Nat), .int .i64 closed]) ∧
   Maps3 w' V ct cm ck n s ∧ Below w.heap.size w w' ∧ (w.heap.size ≤ ct ∧ w.heap.size ≤ cm ∧ w.heap.size ≤ ck) ∧ ct ≠ cm ∧ ct ≠ ck ∧ cm ≠ ck := by
 obtain ⟨W0, hW0⟩ : ∃ W0, W0 = (w.alloc (.cells (stC bt bm bk next closed) 67)).alloc (.cells #[.map none, .map none, .map none, .int .u64 0, .int .i64 0] 67) := ⟨_, rfl⟩
 have gb : Below w.heap.size w W0 := by rw [hW0]; exact ((Below.refl _ _).alloc (Nat.le_refl _) _).alloc (by simp) _
 have gz : W0.heap.size = w.heap.size + 2 := by rw [hW0]; simp
 have g1 : W0.heap[w.heap.size]? = some (.cells (stC bt bm bk next closed) 67 (0, 0)) := by
  rw [hW0, RowKit.Below.heap_alloc _ _ _ (by simp)]; exact heap_alloc_new _ _
 have g2 : W0.heap[w.heap.size + 1]? = some (.cells #[.map none, .map none, .map none, .int .u64 0, .int .i64 0] 67 (0, 0)) := by
  rw [hW0, show w.heap.size + 1 = (w.alloc (.cells (stC bt bm bk next closed) 67)).heap.size from by simp]; exact heap_alloc_new _ _
 have HG : Hid (∀ W, Below W0.heap.size W0 W → W.heap[w.heap.size]? = some (.cells (stC bt bm bk next closed) 67 (0, 0)) ∧ W.heap[w.heap.size + 1]? = some (.cells #[.map none, .map none, .map none, .int .u64 0, .int .i64 0] 67 (0, 0))) :=
  Lib.hid fun W hW => ⟨(hW.block _ (by omega)).trans g1, (hW.block _ (by omega)).trans g2⟩
 have HT : Hid (∀ W, Below W0.heap.size W0 W → Calls Tryz.prog 72 #[.map (some bt)] W fun e w' => e = .returned (.map (some W.heap.size)) ∧ TMap w' V W.heap.size n s.tasks ∧ Below W.heap.size W w' ∧ w'.heap.size = W.heap.size + 1) :=
  Lib.hid fun W hW => clone_t (h.tasks.keep ((gb.trans (hW.mono gb.size)).block _ h.tasks.lt) (Leads.refl V))
 have HM : Hid (∀ W, Below W0.heap.size W0 W → Calls Tryz.prog 73 #[.map (some bm)] W fun e w' => e = .returned (.map (some W.heap.size)) ∧ MMap w' W.heap.size n s.timers ∧ Below W.heap.size W w' ∧ w'.heap.size = W.heap.size + 1) :=
  Lib.hid fun W hW => clone_m (h.timers.keep ((gb.trans (hW.mono gb.size)).block _ h.timers.lt))
 have HK : Hid (∀ W, Below W0.heap.size W0 W → Calls Tryz.prog 74 #[.map (some bk)] W fun e w' => e = .returned (.map (some W.heap.size)) ∧ KMap w' W.heap.size n s.keys ∧ Below W.heap.size W w' ∧ w'.heap.size = W.heap.size + 1) :=
  Lib.hid fun W hW => clone_k (h.keys.keep ((gb.trans (hW.mono gb.size)).block _ h.keys.lt))
 have GB := Lib.hid gb; have GZ := Lib.hid gz
 clear h g1 g2 gb gz
 obtain ⟨hg, -⟩ := HG.out W0 (Below.refl _ _)
 obtain ⟨c0, c1, c2, -, -, -, -, -, -, -⟩ := st_cells hg
 clear hg
 unfold stC at hW0
 replace hW0 := Lib.hid hW0
 go_enter Tryz.func49, Tryz.ntmps49
 go_upto_region 1 with fail
 rw [← hW0.out]
 go_cut [] from 3 to 15 (fun wx => ClSt V w n next closed s wx)
 case first =>
  go_region_with (first
   | (go_at_call 72; refine (HT.out _ ?_).mono ?_; exact below_drew (Below.refl _ _); rintro x W1 ⟨rfl, hm1, hb1, hs1⟩; have hB1 : Below W0.heap.size W0 W1 := (below_drew (Below.refl _ _)).trans hb1; have HB1 := Lib.hid hB1; obtain ⟨hg, -⟩ := HG.out W1 hB1; obtain ⟨p0, p1, p2, -, -, -, -, -, -, -⟩ := st_cells hg; have HM1 := Lib.hid hm1; have HS1 := Lib.hid hs1; have HQ1 := Lib.hid hb1; clear hg hB1 hm1 hs1 hb1)
   | (go_at_call 73; refine (HM.out _ ?_).mono ?_; exact HB1.out; rintro x W2 ⟨rfl, hm1, hb1, hs1⟩; have hB1 : Below W0.heap.size W0 W2 := HB1.out.trans (hb1.mono HB1.out.size); have HB2 := Lib.hid hB1; obtain ⟨hg, -⟩ := HG.out W2 hB1; obtain ⟨q0, q1, q2, -, -, -, -, -, -, -⟩ := st_cells hg; have HM2 := Lib.hid hm1; have HS2 := Lib.hid hs1; have HQ2 := Lib.hid hb1; clear hg hB1 hm1 hs1 hb1)
   | (go_at_call 74; refine (HK.out _ ?_).mono ?_; exact HB2.out; rintro x W3 ⟨rfl, hm1, hb1, hs1⟩; have hB1 : Below W0.heap.size W0 W3 := HB2.out.trans (hb1.mono HB2.out.size); have HB3 := Lib.hid hB1; obtain ⟨hg, hg2⟩ := HG.out W3 hB1; obtain ⟨r0, r1, r2, r3, r4, f0, f1, f2, -, -⟩ := st_cells hg; obtain ⟨-, -, -, -, -, e0, e1, e2, e3, e4⟩ := st_cells hg; have HM3 := Lib.hid hm1; have HS3 := Lib.hid hs1; have HQ3 := Lib.hid hb1; clear hg hg2 hB1 hm1 hs1 hb1))
  all_goals go_wp2_with fail
  all_goals go_meet
  all_goals exact done_cl GZ.out GB.out HB3.out (HG.out _ HB3.out) HM1.out HM2.out HM3.out HS1.out HS2.out HS3.out HQ2.out HQ3.out
 obtain ⟨ct, cm, ck, g1, g2, hm, hb, ⟨k1, k2, k3⟩, n1, n2, n3⟩ := hcut
 obtain ⟨p0, p1, p2, p3, p4, -, -, -, -, -⟩ := st_cells g1
 have q0 : wc.cell? ⟨w.heap.size + 1, 0, none⟩ = some (.map none) := by simp [World.cell?, g2]
 have q1 : wc.cell? ⟨w.heap.size + 1, 1, none⟩ = some (.map none) := by simp [World.cell?, g2]
 have q2 : wc.cell? ⟨w.heap.size + 1, 2, none⟩ = some (.map none) := by simp [World.cell?, g2]
 have q3 : wc.cell? ⟨w.heap.size + 1, 3, none⟩ = some (.int .u64 0) := by simp [World.cell?, g2]
 have q4 : wc.cell? ⟨w.heap.size + 1, 4, none⟩ = some (.int .i64 0) := by simp [World.cell?, g2]
 have f0 : wc.frozen? ⟨w.heap.size + 1, 0, none⟩ = false := by simp [World.frozen?, g2]
 have f1 : wc.frozen? ⟨w.heap.size + 1, 1, none⟩ = false := by simp [World.frozen?, g2]
 have f2 : wc.frozen? ⟨w.heap.size + 1, 2, none⟩ = false := by simp [World.frozen?, g2]
 have f3 : wc.frozen? ⟨w.heap.size + 1, 3, none⟩ = false := by simp [World.frozen?, g2]
 have f4 : wc.frozen? ⟨w.heap.size + 1, 4, none⟩ = false := by simp [World.frozen?, g2]
 have HM := Lib.hid hm; have HB := Lib.hid hb
 clear hm hb g1 g2
 go_step
 go_wp2_with fail
 refine bodyPost_ret (v := .agg #[.map (some ct), .map (some cm), .map (some ck), .int .u64 (next : Nat), .int .i64 closed]) (by simp [results, Tryz.results49, go_sem, q0, q1, q2, q3, q4]) rfl ?_
 have hk : ∀ (W : World) (q : Nat) (u : Value), Below w.heap.size w W ∧ Maps3 W V ct cm ck n s → Below w.heap.size w (W.setCell ⟨w.heap.size + 1, q, none⟩ u) ∧ Maps3 (W.setCell ⟨w.heap.size + 1, q, none⟩ u) V ct cm ck n s := fun W q u h =>
  ⟨h.1.setCell (Nat.le_succ _) u, h.2.tasks.keep (RowKit.Below.heap_setCell _ _ _ _ (by show ct ≠ w.heap.size + 1; omega)) (Leads.refl V), h.2.timers.keep (RowKit.Below.heap_setCell _ _ _ _ (by show cm ≠ w.heap.size + 1; omega)), h.2.keys.keep (RowKit.Below.heap_setCell _ _ _ _ (by show ck ≠ w.heap.size + 1; omega))⟩
 have hfin := hk _ 4 (.int .i64 closed) (hk _ 3 (.int .u64 (next : Nat)) (hk _ 2 (.map (some ck)) (hk _ 1 (.map (some cm)) (hk _ 0 (.map (some ct)) ⟨HB.out, HM.out⟩))))
 exact ⟨ct, cm, ck, rfl, hfin.2, hfin.1, ⟨by omega, by omega, by omega⟩, n1, n2, n3⟩
end Hi
end Go.Proofs.YtkajcldmolcllaaGreat
namespace Go.Proofs.YtkajcldmolcllaaGreat
namespace Hi
open _root_.Go.Proofs.YtkajcldmolcllaaGreat.Nm (ret_int ret_bool)
open Vt (VT Rep below_drew Cloned)
open Ev (EV FieldsOk evCells vCells EBox take_drop tk ap cons_drop)
open Cm (rowOf EvsIn EvsAt EvNew)
open Cn (BT BB BtsIn own_keep wrongE Asks box_ev contains_any)
variable {X X' Y Y' : Nat → Prop} {u v w w' V V' : World} {hb bt bm bk n cap : Nat} {A : Option Addr} {h : HM}

theorem call_hwrong (args : Array Value) (w : World) : (callFunc 47 args).run Tryz.prog w = .ok (.enter 47 args) w := by kernel_rfl
theorem asks_hwrong (es : List EV) : Asks 47 wrongE es := by
 intro e _ lo hi vk vn vf vs A m c w hf hv hz
 obtain ⟨W0, hW0⟩ : ∃ W0, W0 = w.alloc (.cells (evCells e vk vn vf vs A m c) 53) := ⟨_, rfl⟩
 have hb0 : Below w.heap.size w W0 := by rw [hW0]; exact (Below.refl _ _).alloc (Nat.le_refl _) _
 have hx0 : EBox W0 w.heap.size (evCells e vk vn vf vs A m c) := by rw [hW0]; exact box_ev ..
 have HV := Lib.hid (Ev.evalid_any e W0 lo hi _ ⟨hf, vk, vn, vf, vs, A, m, c, rfl, hv.later (hb0.mono hz)⟩ (Nat.le_trans hz hb0.size))
 obtain ⟨g0, g1, g2, g3, g4, g5, g6, g7, g8, g9, g10⟩ := EBox.cells hx0
 have HB0 := Lib.hid hb0
 clear hv hf hx0 hb0
 unfold evCells at HV hW0 ⊢
 replace hW0 := Lib.hid hW0
 go_enter Tryz.func47, Tryz.ntmps47
 go_upto_region 1 with fail
 rw [← hW0.out]
 go_wp2_with fail
 refine HV.out.mono ?_
 rintro x w1 ⟨rfl, hb1⟩
 have HB1 := Lib.hid (HB0.out.trans (hb1.mono HB0.out.size))
 clear hb1 g0 g1 g2 g3 g4 g5 g6 g7 g8 g9 g10
 go_wp2_with fail
 go_ret
 exact ⟨ret_bool (by simp [wrongE]), HB1.out⟩

theorem kind1_at (b : BT) (hp : 0 < b.es.length) : kind1 b = b.es[0].k := by
 obtain ⟨f, a, es⟩ := b
 cases es with
 | nil => exact absurd hp (by simp)
 | cons e r => rfl
def ZS : Value := .agg #[.map none, .map none, .map none, .int .u64 0, .int .i64 0]
def TryOut (Y : Nat → Prop) (w : World) (hb : Nat) (A : Option Addr) (h : HM) (b : BT) (r : Ending) (w' : World) : Prop := Below w.heap.size w w' ∧
 (((addM h b).1 ≠ 0 ∧ r = .returned (.tuple #[ZS, .int .i64 (addM h b).1])) ∨
 ((addM h b).1 = 0 ∧ ∃ bt bm bk n, r = .returned (.tuple #[.agg (stC bt bm bk (addM h b).2.s.next (addM h b).2.s.closed), .int .i64 0]) ∧ Maps3 w' (veil (YH Y hb A) w') bt bm bk n (addM h b).2.s ∧ n ≤ tot h.bs + b.es.length ∧
   w.heap.size ≤ bt ∧ w.heap.size ≤ bm ∧ w.heap.size ≤ bk))
def YT (Y : Nat → Prop) (hb : Nat) (A : Option Addr) (g : Nat) : Nat → Prop := fun c => YH Y hb A c ∨ c = g
def RB (w : World) (g : Nat) : Prop := w.heap[g]? = some (.cells #[.map none, .map none, .map none, .int .u64 0, .int .i64 0] 67 (0, 0))
theorem RB.cells {g : Nat} (h : RB w g) : w.cell? ⟨g, 0, none⟩ = some (.map none) ∧ w.cell? ⟨g, 1, none⟩ = some (.map none) ∧ w.cell? ⟨g, 2, none⟩ = some (.map none) ∧ w.cell? ⟨g, 3, none⟩ = some (.int .u64 0) ∧ w.cell? ⟨g, 4, none⟩ = some (.int .i64 0) ∧
  w.frozen? ⟨g, 0, none⟩ = false ∧ w.frozen? ⟨g, 1, none⟩ = false ∧ w.frozen? ⟨g, 2, none⟩ = false ∧ w.frozen? ⟨g, 3, none⟩ = false ∧ w.frozen? ⟨g, 4, none⟩ = false := by
 unfold RB at h; simp [World.cell?, World.frozen?, h]
theorem below5 {B g : Nat} (h : Below B w w') (hg : B ≤ g) (a b c d e : Value) : Below B w (((((w'.setCell ⟨g, 0, none⟩ a).setCell ⟨g, 1, none⟩ b).setCell ⟨g, 2, none⟩ c).setCell ⟨g, 3, none⟩ d).setCell ⟨g, 4, none⟩ e) :=
 ((((h.setCell (p := ⟨g, 0, none⟩) hg _).setCell (p := ⟨g, 1, none⟩) hg _).setCell (p := ⟨g, 2, none⟩) hg _).setCell (p := ⟨g, 3, none⟩) hg _).setCell (p := ⟨g, 4, none⟩) hg _

set_option maxRecDepth 100000 in
set_option maxHeartbeats 4000000 in
theorem try_any (H : HAt Y w hb bt bm bk n A cap h) (hY : ∀ b, Y b → b < w.heap.size) (b : BT) (A2 : Option Addr) (c2 : Nat) (hev : EvsIn w A2 c2 b.es) (hbat : b.at' < 18446744073709551616) (hS : ∀ i (h : i < b.es.length), b.es[i].v.Slim 900) (hl40 : b.es.length ≤ 1099511627776)
  (htot : tot h.bs + b.es.length ≤ 8796093022208) (hfl : b.flow.size ≤ maxLen) :
  Calls Tryz.prog 28 #[.pointer (some ⟨hb, 0, none⟩), .agg #[.string b.flow, .int .u64 (b.at' : Nat), .slice A2 b.es.length c2]] w (TryOut Y w hb A h b) := by
 obtain ⟨m, hm⟩ : ∃ m, m = b.es.length := ⟨_, rfl⟩
 have hl := hev.le
 have hcm := hev.cap_le
 simp only [maxLen] at hcm
 rw [← hm] at hl hl40 htot
 rw [← hm]
 obtain ⟨W0, hW0⟩ : ∃ W0, W0 = (w.alloc (.cells #[.string b.flow, .int .u64 (b.at' : Nat), .slice A2 m c2] 36)).alloc (.cells #[.map none, .map none, .map none, .int .u64 0, .int .i64 0] 67) := ⟨_, rfl⟩
 have hx0 : BB W0 w.heap.size b.flow b.at' A2 m c2 := by rw [hW0]; exact (heap_alloc_old _ _ (by simp)).trans (heap_alloc_new w _)
 have hx1 : RB W0 (w.heap.size + 1) := by
  rw [hW0]
  have e := heap_alloc_new (w.alloc (.cells #[.string b.flow, .int .u64 (b.at' : Nat), .slice A2 m c2] 36)) (.cells #[.map none, .map none, .map none, .int .u64 0, .int .i64 0] 67)
  rw [World.size_alloc] at e
  exact e
 have hb0 : Below w.heap.size w W0 := by rw [hW0]; exact ((Below.refl _ _).alloc (Nat.le_refl _) _).alloc (by simp) _
 have hz0 : W0.heap.size = w.heap.size + 2 := by rw [hW0]; simp
 have HH : Hid (∀ W, Below W0.heap.size W0 W → HAt Y W hb bt bm bk n A cap h) := Lib.hid fun W hW => H.later (hb0.trans (hW.mono hb0.size))
 have HEV : Hid (∀ W, Below W0.heap.size W0 W → EvsIn W A2 c2 b.es) := Lib.hid fun W hW => hev.later (hb0.trans (hW.mono hb0.size))
 have HBB : Hid (∀ W, Below W0.heap.size W0 W → BB W w.heap.size b.flow b.at' A2 m c2) := Lib.hid fun W hW => hx0.later hW (by omega)
 have HRB : Hid (∀ W, Below W0.heap.size W0 W → RB W (w.heap.size + 1)) := Lib.hid fun W hW => (hW.block _ (by omega)).trans hx1
 have HBW : Hid (∀ W, Below W0.heap.size W0 W → Below w.heap.size w W) := Lib.hid fun W hW => hb0.trans (hW.mono hb0.size)
 have HM := Lib.hid hm; have HZ := Lib.hid hz0; have HS := Lib.hid hS; have HY := Lib.hid hY; have HT := Lib.hid htot; have HFL := Lib.hid hfl; have HBAT := Lib.hid hbat
 have H0 := Lib.hid H
 obtain ⟨a0, a1, a2, -⟩ := hx0.cells
 obtain ⟨r0, r1, r2, r3, r4, rf0, rf1, rf2, rf3, rf4⟩ := hx1.cells
 clear H hev hx0 hx1 hb0 hz0 hS hY htot hfl hm hbat
 replace hW0 := Lib.hid hW0
 have HCT := Lib.hid (contains_any 47 call_hwrong wrongE b.es (asks_hwrong b.es) A2 c2 W0 (HEV.out W0 (Below.refl _ _)))
 rw [← HM.out] at HCT
 generalize hff : b.flow = ff at *
 generalize hat : b.at' = at' at *
 have HFF := Lib.hid hff; have HAT := Lib.hid hat
 clear hff hat
 go_enter Tryz.func28, Tryz.ntmps28
 go_upto_region 1 with fail
 rw [← hW0.out]
 have HBAD : Hid (∀ c : Int, (addM h b).1 = c → c ≠ 0 → ∀ W, Below W0.heap.size W0 W → ∀ x0 x1 x2 x3 x4, TryOut Y w hb A h b (.returned (.tuple #[ZS, .int .i64 c])) (((((W.setCell ⟨w.heap.size + 1, 0, none⟩ x0).setCell ⟨w.heap.size + 1, 1, none⟩ x1).setCell ⟨w.heap.size + 1, 2, none⟩ x2).setCell ⟨w.heap.size + 1, 3, none⟩ x3).setCell ⟨w.heap.size + 1, 4, none⟩ x4)) :=
  Lib.hid fun c hc hne W hW x0 x1 x2 x3 x4 => ⟨below5 (HBW.out W hW) (Nat.le_succ _) _ _ _ _ _, .inl ⟨by rw [hc]; exact hne, by rw [hc]⟩⟩
 have HOK : Hid (bOk b = false → (addM h b).1 = 2) := Lib.hid fun hk => by unfold addM; rw [if_pos hk]
 have HBO : Hid (bOk b = (decide (at' ≤ 9223372036854775807) && decide (0 < m) && !b.es.any wrongE)) := Lib.hid (by unfold bOk; rw [HAT.out, HM.out]; rfl)
 by_cases h1 : at' ≤ 9223372036854775807
 rotate_left
 ·have k1 : decide ((at' : Int) ≤ 9223372036854775807) = false := decide_eq_false (by omega)
  have k1' : decide (9223372036854775807 < (at' : Int)) = true := decide_eq_true (by omega)
  have HA2 := Lib.hid (HOK.out (by rw [HBO.out, decide_eq_false h1]; simp))
  clear h1
  go_wp2_with fail
  refine bodyPost_ret (v := .tuple #[ZS, .int .i64 2]) (by simp [results, Tryz.results28, go_sem, ZS, r0, r1, r2, r3, r4]) rfl ?_
  exact HBAD.out 2 HA2.out (by decide) W0 (Below.refl _ _) _ _ _ _ _
 have k1 : decide ((at' : Int) ≤ 9223372036854775807) = true := decide_eq_true (by omega)
 have k1' : decide (9223372036854775807 < (at' : Int)) = false := decide_eq_false (by omega)
 by_cases h2 : m = 0
 ·have hm0 : ((m : Int) == 0) = true := by simp; omega
  have HA2 := Lib.hid (HOK.out (by rw [HBO.out, decide_eq_false (by omega : ¬ 0 < m)]; simp))
  clear h1
  go_wp2_with fail
  refine bodyPost_ret (v := .tuple #[ZS, .int .i64 2]) (by simp [results, Tryz.results28, go_sem, ZS, r0, r1, r2, r3, r4]) rfl ?_
  exact HBAD.out 2 HA2.out (by decide) W0 (Below.refl _ _) _ _ _ _ _
 have HQ1 := Lib.hid h1
 clear h1
 have hm0 : ((m : Int) == 0) = false := by simp; omega
 go_upto_region 3 with fail
 go_wp2_with fail
 refine HCT.out.mono ?_
 rintro x w1 ⟨rfl, hb1⟩
 have HB1 := Lib.hid hb1
 clear hb1
 generalize hwr : b.es.any wrongE = wr at *
 cases wr with
 | true =>
  obtain ⟨q0, q1, q2, q3, q4, qf0, qf1, qf2, qf3, qf4⟩ := (HRB.out w1 HB1.out).cells
  have HA2 := Lib.hid (HOK.out (by rw [HBO.out]; simp))
  clear r0 r1 r2 r3 r4 rf0 rf1 rf2 rf3 rf4 a0 a1 a2
  go_wp2_with fail
  refine bodyPost_ret (v := .tuple #[ZS, .int .i64 2]) (by simp [results, Tryz.results28, go_sem, ZS, q0, q1, q2, q3, q4]) rfl ?_
  exact HBAD.out 2 HA2.out (by decide) w1 HB1.out _ _ _ _ _
 | false =>
  have HOKT : Hid (bOk b = true) := Lib.hid (by rw [HBO.out, decide_eq_true HQ1.out, decide_eq_true (by omega : 0 < m)]; rfl)
  have HWR := Lib.hid hwr
  obtain ⟨a0, a1, a2, -⟩ := (HBB.out w1 HB1.out).cells
  obtain ⟨s0, s1, s2, s3, s4, s5, s6, sf⟩ := h_cells (HH.out w1 HB1.out).blk
  generalize hhf : h.flow = hf at *
  have HHF := Lib.hid hhf
  clear hhf
  obtain ⟨w2, hw2⟩ : ∃ w2, w2 = w1.drew := ⟨_, rfl⟩
  have HB2 : Hid (Below W0.heap.size W0 w2) := Lib.hid (by rw [hw2]; exact below_drew HB1.out)
  go_upto_region 5 with fail
  go_region
  rw [← hw2]
  replace hw2 := Lib.hid hw2
  clear a0 a1 a2 s0 s1 s2 s3 s4 s5 s6 sf r0 r1 r2 r3 r4 rf0 rf1 rf2 rf3 rf4
  obtain ⟨q0, q1, q2, q3, q4, qf0, qf1, qf2, qf3, qf4⟩ := (HRB.out w2 HB2.out).cells
  obtain ⟨a0, a1, a2, -⟩ := (HBB.out w2 HB2.out).cells
  obtain ⟨s0, s1, s2, s3, s4, s5, s6, sf⟩ := h_cells (HH.out w2 HB2.out).blk
  have HADD1 : Hid (b.flow ≠ h.flow → (addM h b).1 = 6) := Lib.hid fun q => by unfold addM; rw [if_neg (by rw [HOKT.out]; simp), if_pos q]
  rw [HFF.out, HHF.out] at HADD1
  obtain ⟨bb, hbb⟩ : ∃ bb, bb = (ff.toList == hf.toList) := ⟨_, rfl⟩
  rw [← hbb]
  have hbe : bb = decide (ff = hf) := by
   rw [hbb]
   by_cases e : ff = hf
   ·rw [e]; simp
   ·rw [decide_eq_false e, beq_eq_false_iff_ne]; intro q; exact e (ByteArray.ext (Array.ext' (by rw [Vt.toList_data, Vt.toList_data] at q; exact q)))
  clear hbb
  by_cases h3 : ff = hf
  rotate_left
  ·obtain rfl : bb = false := by rw [hbe]; exact decide_eq_false h3
   have HA2 := Lib.hid (HADD1.out h3)
   clear hbe h3
   go_wp2_with fail
   refine bodyPost_ret (v := .tuple #[ZS, .int .i64 6]) (by simp [results, Tryz.results28, go_sem, ZS, q0, q1, q2, q3, q4]) rfl ?_
   exact HBAD.out 6 HA2.out (by decide) w2 HB2.out _ _ _ _ _
  obtain rfl : bb = true := by rw [hbe]; exact decide_eq_true h3
  clear hbe
  have HFE := Lib.hid h3
  clear h3
  generalize hcl : h.s.closed = cl at *
  have HCL := Lib.hid hcl
  clear hcl
  have HADD2 : Hid (h.s.closed ≠ 0 → (addM h b).1 = 8) := Lib.hid fun q => by unfold addM; rw [if_neg (by rw [HOKT.out]; simp), if_neg (by rw [HFF.out, HHF.out, HFE.out]; simp), if_pos q]
  rw [HCL.out] at HADD2
  by_cases h4 : cl = 0
  rotate_left
  ·have kc : (cl != 0) = true := by simpa using h4
   have kc2 : (cl == 0) = false := by simpa using h4
   have HA2 := Lib.hid (HADD2.out h4)
   clear h4
   go_wp2_with fail
   refine bodyPost_ret (v := .tuple #[ZS, .int .i64 8]) (by simp [results, Tryz.results28, go_sem, ZS, q0, q1, q2, q3, q4]) rfl ?_
   exact HBAD.out 8 HA2.out (by decide) w2 HB2.out _ _ _ _ _
  subst h4
  go_upto_region 9 with fail
  have hp0 : 0 < b.es.length := by have := HM.out; omega
  obtain ⟨eb, eo, lo0, hi0, vk0, vn0, vf0, vs0, A0, m0, c0, hA, heb, -, -, -, z0, -⟩ := (HEV.out w2 HB2.out).get 0 hp0
  subst hA
  rw [show eo + 0 * 11 = eo by omega] at z0
  have hk1 : kind1 b = b.es[0].k := kind1_at b hp0
  generalize hkk : b.es[0].k = k0 at *
  have HK1 := Lib.hid hk1
  clear hk1 hkk
  have HCA := Lib.hid (hat_any (HH.out w2.drew (below_drew HB2.out)))
  have HBS : Hid (h.bs = [] ↔ h.bs.length = 0) := Lib.hid (by constructor; intro e; rw [e]; rfl; intro e; exact List.eq_nil_of_length_eq_zero e)
  have HADD3 : Hid ((at' < h.at' ∨ ¬ (k0 = 1 ↔ h.bs.length = 0)) → (addM h b).1 = 12) := Lib.hid fun q => by unfold addM; rw [if_neg (by rw [HOKT.out]; simp), if_neg (by rw [HFF.out, HHF.out, HFE.out]; simp), if_neg (by rw [HCL.out]; simp), if_pos (by rw [HAT.out, HK1.out, HBS.out]; exact q)]
  have HADD4 : Hid (¬ (at' < h.at' ∨ ¬ (k0 = 1 ↔ h.bs.length = 0)) → addM h b = match runM b.at' b.es true h.s with | none => (12, h) | some s' => (0, ⟨h.flow, h.bs ++ [b], s'⟩)) := Lib.hid fun q => by unfold addM; rw [if_neg (by rw [HOKT.out]; simp), if_neg (by rw [HFF.out, HHF.out, HFE.out]; simp), if_neg (by rw [HCL.out]; simp), if_neg (by rw [HAT.out, HK1.out, HBS.out]; exact q)]; cases runM b.at' b.es true h.s <;> rfl
  have KS : Hid (∀ W, Below w2.heap.size w2 W → (fun W : World => W.cell? ⟨w.heap.size, 1, none⟩ = some (.int .u64 (at' : Nat)) ∧ W.cell? ⟨w.heap.size, 2, none⟩ = some (.slice (some ⟨eb, eo, none⟩) m c2) ∧ W.cell? ⟨hb, 6, none⟩ = some (.slice A h.bs.length cap) ∧ W.cell? ⟨eb, eo, none⟩ = some (.int .i64 k0)) W) := Lib.hid fun W hW => by
   have hWW := HB2.out.trans (hW.mono HB2.out.size)
   obtain ⟨-, d1, d2, -⟩ := (HBB.out W hWW).cells
   obtain ⟨-, -, -, -, -, -, d6, -⟩ := h_cells (HH.out W hWW).blk
   exact ⟨d1, d2, d6, (hW.cell (p := ⟨eb, eo, none⟩) heb).trans z0⟩
  generalize hha : h.at' = ha at *
  generalize hll : h.bs.length = L at *
  have HHA := Lib.hid hha; have HLL := Lib.hid hll
  clear hha hll a0 a1 a2 s0 s1 s2 s3 s4 s5 s6 sf q0 q1 q2 q3 q4 qf0 qf1 qf2 qf3 qf4 z0
  by_cases h5 : at' < ha
  ·have k5 : decide ((at' : Int) < (ha : Int)) = true := decide_eq_true (by omega)
   have k5n : decide (at' < ha) = true := decide_eq_true h5
   have HA2 := Lib.hid (HADD3.out (.inl h5))
   clear h5
   refine wp_region_noPanic ?_
   refine wp_region_held_drew (S := (fun W : World => W.cell? ⟨w.heap.size, 1, none⟩ = some (.int .u64 (at' : Nat)) ∧ W.cell? ⟨w.heap.size, 2, none⟩ = some (.slice (some ⟨eb, eo, none⟩) m c2) ∧ W.cell? ⟨hb, 6, none⟩ = some (.slice A L cap) ∧ W.cell? ⟨eb, eo, none⟩ = some (.int .i64 k0))) (by kernel_rfl) ?_ (fun hHeld => ?_)
   ·exact KS.out _ (below_drew (Below.refl _ _))
   refine tk 0 rfl ?_
   try simp only [ap]
   refine tk 1 rfl ?_
   try simp only [ap]
   refine tk 2 rfl ?_
   try simp only [ap]
   refine wpAnyH_ready (rs := [3]) (by kernel_rfl) (by simp) ?_
   refine cons_drop rfl (fun K hK => ?_) AllReadyH.nil
   go_simp
   (with_reducible refine HCA.out.mono ?_)
   rintro e5 w5 ⟨rfl, hb9⟩
   have hq5 : Below w2.heap.size w2 w5 := (below_drew (Below.refl _ _)).trans hb9
   have HQ5 := Lib.hid hq5
   clear hb9 hq5
   go_wp2_with fail
   refine hK.out _ _ (KS.out _ HQ5.out) (fun hHeld2 => ?_)
   clear hK K hHeld
   try simp only [ap]
   refine tk 4 rfl ?_
   try simp only [ap]
   refine tk 5 rfl ?_
   try simp only [ap]
   refine tk 6 rfl ?_
   try simp only [ap]
   refine tk 7 rfl ?_
   try simp only [ap]
   refine tk 8 rfl ?_
   try simp only [ap]
   refine tk 9 rfl ?_
   try simp only [ap]
   refine tk 10 rfl ?_
   try simp only [ap]
   refine tk 11 rfl ?_
   try simp only [ap]
   refine tk 12 rfl ?_
   try simp only [ap]
   refine tk 13 rfl ?_
   try simp only [ap]
   refine tk 14 rfl ?_
   try simp only [ap]
   refine tk 15 rfl ?_
   try simp only [ap]
   refine tk 16 rfl ?_
   try simp only [ap]
   refine tk 17 rfl ?_
   try simp only [ap]
   refine tk 18 rfl ?_
   try simp only [ap]
   refine tk 19 rfl ?_
   try simp only [ap]
   refine tk 20 rfl ?_
   try simp only [ap]
   refine wpAnyH_done (by kernel_rfl) ?_ _
   refine NoPanic.normal ?_
   clear hHeld2
   have HB5 : Hid (Below W0.heap.size W0 w5) := Lib.hid (HB2.out.trans (HQ5.out.mono HB2.out.size))
   obtain ⟨q0, q1, q2, q3, q4, qf0, qf1, qf2, qf3, qf4⟩ := (HRB.out w5 HB5.out).cells
   go_wp2_with fail
   refine bodyPost_ret (v := .tuple #[ZS, .int .i64 12]) (by simp [results, Tryz.results28, go_sem, ZS, q0, q1, q2, q3, q4]) rfl ?_
   exact HBAD.out 12 HA2.out (by decide) w5 HB5.out _ _ _ _ _
  have k5 : decide ((at' : Int) < (ha : Int)) = false := decide_eq_false (by omega)
  have k5n : decide (at' < ha) = false := decide_eq_false h5
  have HN5 := Lib.hid h5
  clear h5
  have hm1 : 0 < m := by omega
  have hm2 : (0 : Int) < (m : Int) := by omega
  refine wp_region_noPanic ?_
  refine wp_region_held_drew (S := (fun W : World => W.cell? ⟨w.heap.size, 1, none⟩ = some (.int .u64 (at' : Nat)) ∧ W.cell? ⟨w.heap.size, 2, none⟩ = some (.slice (some ⟨eb, eo, none⟩) m c2) ∧ W.cell? ⟨hb, 6, none⟩ = some (.slice A L cap) ∧ W.cell? ⟨eb, eo, none⟩ = some (.int .i64 k0))) (by kernel_rfl) ?_ (fun hHeld => ?_)
  ·exact KS.out _ (below_drew (Below.refl _ _))
  refine tk 0 rfl ?_
  try simp only [ap]
  refine tk 1 rfl ?_
  try simp only [ap]
  refine tk 2 rfl ?_
  try simp only [ap]
  refine wpAnyH_ready (rs := [3]) (by kernel_rfl) (by simp) ?_
  refine cons_drop rfl (fun K hK => ?_) AllReadyH.nil
  go_simp
  (with_reducible refine HCA.out.mono ?_)
  rintro e5 w5 ⟨rfl, hb9⟩
  have hq5 : Below w2.heap.size w2 w5 := (below_drew (Below.refl _ _)).trans hb9
  have HQ5 := Lib.hid hq5
  clear hb9 hq5
  go_wp2_with fail
  refine hK.out _ _ (KS.out _ HQ5.out) (fun hHeld2 => ?_)
  clear hK K hHeld
  try simp only [ap]
  refine tk 4 rfl ?_
  try simp only [ap]
  refine tk 5 rfl ?_
  try simp only [ap]
  refine tk 6 rfl ?_
  try simp only [ap]
  refine tk 7 rfl ?_
  try simp only [ap]
  refine tk 8 rfl ?_
  try simp only [ap]
  refine tk 9 rfl ?_
  try simp only [ap]
  refine tk 10 rfl ?_
  try simp only [ap]
  refine tk 11 rfl ?_
  try simp only [ap]
  refine tk 12 rfl ?_
  try simp only [ap]
  refine tk 13 rfl ?_
  try simp only [ap]
  refine tk 14 rfl ?_
  try simp only [ap]
  refine tk 15 rfl ?_
  try simp only [ap]
  refine tk 16 rfl ?_
  try simp only [ap]
  refine tk 17 rfl ?_
  try simp only [ap]
  refine tk 18 rfl ?_
  try simp only [ap]
  refine tk 19 rfl ?_
  try simp only [ap]
  refine tk 20 rfl ?_
  try simp only [ap]
  refine wpAnyH_done (by kernel_rfl) ?_ _
  refine NoPanic.normal ?_
  clear hHeld2
  have HB5 : Hid (Below W0.heap.size W0 w5) := Lib.hid (HB2.out.trans (HQ5.out.mono HB2.out.size))
  obtain ⟨q0, q1, q2, q3, q4, qf0, qf1, qf2, qf3, qf4⟩ := (HRB.out w5 HB5.out).cells
  obtain ⟨bb, hbb⟩ : ∃ bb, bb = ((k0 == 1) == ((L : Int) == 0)) := ⟨_, rfl⟩
  rw [← hbb]
  have hbe : bb = decide (k0 = 1 ↔ L = 0) := by
   rw [hbb]
   rw [show (k0 == 1) = decide (k0 = 1) from by rw [Bool.eq_iff_iff]; simp, show ((L : Int) == 0) = decide (L = 0) from by rw [Bool.eq_iff_iff]; simp]
   by_cases e1 : k0 = 1 <;> by_cases e2 : L = 0 <;> simp [e1, e2]
  clear hbb
  by_cases h6 : (k0 = 1 ↔ L = 0)
  rotate_left
  ·obtain rfl : bb = false := by rw [hbe]; exact decide_eq_false h6
   have HA2 := Lib.hid (HADD3.out (.inr h6))
   clear hbe h6
   go_wp2_with fail
   refine bodyPost_ret (v := .tuple #[ZS, .int .i64 12]) (by simp [results, Tryz.results28, go_sem, ZS, q0, q1, q2, q3, q4]) rfl ?_
   exact HBAD.out 12 HA2.out (by decide) w5 HB5.out _ _ _ _ _
  obtain rfl : bb = true := by rw [hbe]; exact decide_eq_true h6
  have HAD := Lib.hid (HADD4.out (fun q => q.elim HN5.out (fun q => q h6)))
  clear hbe h6 k5 k5n
  have hH5 := HH.out w5 HB5.out
  obtain ⟨s0, s1, s2, s3, s4, s5, s6, sf⟩ := h_cells hH5.blk
  have HCLN := Lib.hid (stclone_any bt bm bk n h.s h.s.next h.s.closed w5 (veil (YH Y hb A) w) (H0.out.maps.later (HBW.out w5 HB5.out |>.mono (Nat.le_refl _)) (Leads.refl _)))
  have HH5 := Lib.hid hH5
  clear hH5
  generalize hnx : h.s.next = nx at *
  generalize hcx : h.s.closed = cx at *
  have HNX := Lib.hid hnx; have HCX := Lib.hid hcx
  clear hnx hcx
  go_upto_region 11 with fail
  go_wp2_with fail
  refine HCLN.out.mono ?_
  rintro x w6 ⟨ct, cm, ck, rfl, hm6, hb6, ⟨k1, k2, k3⟩, n1, n2, n3⟩
  obtain ⟨W7, hW7⟩ : ∃ W7, W7 = w6.alloc (.cells (stC ct cm ck nx cx) 67) := ⟨_, rfl⟩
  have hb7 : Below w5.heap.size w5 W7 := by rw [hW7]; exact hb6.alloc hb6.size _
  have hz7 : W7.heap.size = w6.heap.size + 1 := by rw [hW7]; simp
  have hblk7 : W7.heap[w6.heap.size]? = some (.cells (stC ct cm ck nx cx) 67 (0, 0)) := by rw [hW7]; exact heap_alloc_new _ _
  have hold : ∀ c, c < w6.heap.size → W7.heap[c]? = w6.heap[c]? := fun c hc => by rw [hW7]; exact RowKit.Below.heap_alloc _ _ _ hc
  have hb07 : Below w.heap.size w W7 := (HBW.out w5 HB5.out).trans (hb7.mono (HBW.out w5 HB5.out).size)
  have hl7 : Leads (veil (YH Y hb A) w) (veil (XY (YT Y hb A (w.heap.size + 1)) w6.heap.size ct cm ck) W7) := leads_veils hb07.size fun c hc hx => ⟨fun q => by
   have := hb6.size; have := (HBW.out w5 HB5.out).size
   rcases q with (q | rfl) | rfl | rfl | rfl | rfl
   ·exact hx q
   all_goals omega, hb07.block c hc⟩
  have hS7 : SAt (YT Y hb A (w.heap.size + 1)) W7 w6.heap.size ct cm ck n h.s := ⟨by rw [HNX.out, HCX.out]; exact hblk7, ⟨hm6.tasks.keep (hold ct hm6.tasks.lt) hl7, hm6.timers.keep (hold cm hm6.timers.lt), hm6.keys.keep (hold ck hm6.keys.lt)⟩, by have := hm6.tasks.lt; omega, by have := hm6.timers.lt; omega, by have := hm6.keys.lt; omega, n1, n2, n3⟩
  have hyh : ∀ c, YT Y hb A (w.heap.size + 1) c → c < W0.heap.size := fun c hc => by
   have := HZ.out
   rcases hc with (hc | rfl | hc) | rfl
   ·have := HY.out c hc; omega
   ·have := H0.out.lt; omega
   ·have := H0.out.row.row_lt c hc; omega
   ·omega
  have HYH := Lib.hid hyh; have HS7 := Lib.hid hS7; have HB7 := Lib.hid (HB5.out.trans (hb7.mono HB5.out.size)); have HZ7 := Lib.hid hz7; have HB67 := Lib.hid hb6
  have HCT2 : Hid (w5.heap.size ≤ ct ∧ w5.heap.size ≤ cm ∧ w5.heap.size ≤ ck) := Lib.hid ⟨k1, k2, k3⟩
  have HZ56 : Hid (w5.heap.size ≤ w6.heap.size ∧ W0.heap.size ≤ w5.heap.size) := Lib.hid ⟨hb6.size, HB5.out.size⟩
  unfold stC at hW7
  replace hW7 := Lib.hid hW7
  clear hm6 hb6 k1 k2 k3 n1 n2 n3 hb7 hb07 hz7 hblk7 hold hl7 hS7 hyh q0 q1 q2 q3 q4 qf0 qf1 qf2 qf3 qf4 s0 s1 s2 s3 s4 s5 s6 sf
  obtain ⟨-, d1, d2, -⟩ := (HBB.out W7 HB7.out).cells
  go_upto_region 12 with fail
  rw [← hW7.out]
  generalize hg : w6.heap.size = g at *
  have HG := Lib.hid hg
  clear hg
  go_wp2_with fail
  have HBR0 : Hid (∀ W, Chg (XS g ct cm ck) W7 W → Below W0.heap.size W0 W) := Lib.hid fun W hW => HB7.out.trans (hW.below HB7.out.size fun c hc => by
   obtain ⟨k1, k2, k3⟩ := HCT2.out
   obtain ⟨k4, k5⟩ := HZ56.out
   rcases hc with rfl | rfl | rfl | rfl <;> omega)
  go_loopw [76] (fun i wr => ∃ (j n2 : Nat) (s2 : ST), j ≤ m ∧ i = .int .i64 j ∧ SAt (YT Y hb A (w.heap.size + 1)) wr g ct cm ck n2 s2 ∧ Fine s2 ∧ s2.next ≤ nx + j ∧ n2 ≤ n + j ∧ runM b.at' b.es true h.s = runM b.at' (b.es.drop j) (decide (j = 0)) s2 ∧ Chg (XS g ct cm ck) W7 wr) (fun i _ => m - (intOf i).toNat)
  case atStart => exact ⟨0, n, h.s, by omega, rfl, HS7.out, H0.out.fine.fine, by rw [HNX.out]; exact Nat.le_refl _, Nat.le_refl _, rfl, Chg.refl _ _⟩
  case round =>
   obtain ⟨j, n2, s2, hj, rfl, hs, hfi, hnx2, hn2, hrun, hch⟩ := hrel
   have HSJ := Lib.hid hs; have HFI := Lib.hid hfi; have HNX2 := Lib.hid hnx2; have HN2 := Lib.hid hn2; have HRUN := Lib.hid hrun; have HCH := Lib.hid hch
   have HBR := Lib.hid (HBR0.out wr hch)
   clear hs hfi hnx2 hn2 hrun hch d1 d2
   obtain ⟨-, d1, d2, -⟩ := (HBB.out wr HBR.out).cells
   by_cases hlt : j < m
   ·have hje : j < b.es.length := by have := HM.out; omega
    obtain ⟨eb2, eo2, lo, hi, vk, vn, vf, vs, A', m', c', hA2, hbl, hf, hv, hhi, e0, e1, e2, e3, e4, e5, e6, e7, e8, e9, e10⟩ := (HEV.out W0 (Below.refl _ _)).get j hje
    injection hA2 with hA2
    injection hA2 with hA2 hA3 _
    subst hA2; subst hA3
    have hcw : ∀ o, wr.cell? ⟨eb, o, none⟩ = W0.cell? ⟨eb, o, none⟩ := fun o => HBR.out.cell (p := ⟨eb, o, none⟩) hbl
    have y0 := (hcw _).trans e0; have y1 := (hcw _).trans e1; have y2 := (hcw _).trans e2; have y3 := (hcw _).trans e3; have y4 := (hcw _).trans e4; have y5 := (hcw _).trans e5; have y6 := (hcw _).trans e6; have y7 := (hcw _).trans e7; have y8 := (hcw _).trans e8; have y9 := (hcw _).trans e9; have y10 := (hcw _).trans e10
    clear e0 e1 e2 e3 e4 e5 e6 e7 e8 e9 e10 hcw
    obtain ⟨e, he⟩ : ∃ e, e = b.es[j] := ⟨_, rfl⟩
    have hval : e.valid = true := by
     have := List.any_eq_false.1 HWR.out b.es[j] (List.getElem_mem hje)
     rw [he]; simpa [wrongE] using this
    rw [← he] at hf hv y0 y1 y2 y3 y4 y5
    have hEO := evOk_of hf hval (by rw [he]; exact HS.out j hje)
    have hdr : b.es.drop j = e :: b.es.drop (j + 1) := by rw [he]; exact List.drop_eq_getElem_cons hje
    obtain ⟨W8, hW8⟩ : ∃ W8, W8 = wr.alloc (.cells (evCells e vk vn vf vs A' m' c') 53) := ⟨_, rfl⟩
    have hb8 : Below wr.heap.size wr W8 := by rw [hW8]; exact (Below.refl _ _).alloc (Nat.le_refl _) _
    have hx8 : EBox W8 wr.heap.size (evCells e vk vn vf vs A' m' c') := by rw [hW8]; exact box_ev ..
    obtain ⟨g0, g1, g2, g3, g4, g5, g6, g7, g8, g9, g10⟩ := EBox.cells hx8
    have hv8 : Rep W8 lo hi e.v (vCells vk vn vf vs A' m' c') := hv.later ((HBR.out.trans (hb8.mono HBR.out.size)).mono hhi)
    have HAP : Hid (∀ alone, Calls Tryz.prog 51 #[.pointer (some ⟨g, 0, none⟩), .agg (evCells e vk vn vf vs A' m' c'), .int .u64 (at' : Nat), .bool alone] W8 (AOut (YT Y hb A (w.heap.size + 1)) W8 g ct cm ck n2 (applyM at' alone e s2))) := Lib.hid fun alone =>
     apply_any g ct cm ck s2 (HSJ.out.later hb8) (by have := HN2.out; have := H0.out.nn; have := HT.out; have := HLL.out; omega) (by have := HNX2.out; have := H0.out.fine.next; have := HT.out; have := HNX.out; omega) HFI.out (fun c hc => by have := HYH.out c hc; have := HZ.out; have := HBR.out.size; have := hb8.size; omega) e hEO vk vn vf vs A' m' c' lo hi hv8 (by have := HBR.out.size; have := hb8.size; omega) (by obtain ⟨k1, k2, k3⟩ := HCT2.out; obtain ⟨k4, k5⟩ := HZ56.out; exact ⟨by omega, by omega, by omega, by omega⟩) at' HBAT.out alone
    have HEO := Lib.hid hEO; have HDR := Lib.hid hdr; have HB8 := Lib.hid hb8; have HC8 : Hid (Chg (XS g ct cm ck) W7 W8) := Lib.hid (HCH.out.trans (Chg.of_below hb8))
    obtain ⟨-, p1, p2, -⟩ := (HBB.out W8 (HBR.out.trans (hb8.mono HBR.out.size))).cells
    clear hf hv hv8 hhi hval hEO he hdr hb8 hx8
    have hO := Cn.outside_any e.k W8
    obtain ⟨ob, hob⟩ : ∃ ob, ob = decide (1 ≤ e.k ∧ e.k ≤ 6) := ⟨_, rfl⟩
    rw [← hob] at hO
    have HOB : Hid (ob = decide (e.k ≤ 6)) := Lib.hid (by rw [hob]; exact decide_eq_decide.2 ⟨fun q => q.2, fun q => ⟨HEO.out.k0, q⟩⟩)
    have HO := Lib.hid hO
    clear hob hO
    unfold evCells at hW8 HAP
    replace hW8 := Lib.hid hW8
    go_upto_region 15 with fail
    rw [← hW8.out]
    have HAL : Hid (((j : Int) == (m : Int) - 1) = (b.es.drop (j + 1)).isEmpty) := Lib.hid (by rw [drop_isEmpty hje, ← HM.out, Bool.eq_iff_iff]; simp)
    by_cases hj0 : j = 0
    ·have hz : ((j : Int) == 0) = true := by simp; omega
     have HJZ : Hid (decide (j = 0) = true) := Lib.hid (decide_eq_true hj0)
     clear hj0
     cases ob with
     | true =>
      go_wp2_with fail
      refine HO.out.mono ?_
      rintro x wx ⟨rfl, rfl⟩
      go_wp2_with fail
      refine (HAP.out _).mono ?_
      rintro x w9 ⟨hc9, hout⟩
      rw [HAL.out] at hout
      have hrn : runM b.at' b.es true h.s = (applyM at' (b.es.drop (j + 1)).isEmpty e s2).bind (runM b.at' (b.es.drop (j + 1)) false) := by rw [HRUN.out, HDR.out, runM_cons (by rw [← HOB.out, HJZ.out]), HAT.out]
      have HC9 := Lib.hid (HC8.out.trans hc9)
      have HB9 := Lib.hid (HBR0.out w9 HC9.out)
      cases ha : applyM at' (b.es.drop (j + 1)).isEmpty e s2 with
      | none =>
       rw [ha] at hout hrn
       obtain rfl := hout
       have HA2 : Hid ((addM h b).1 = 12) := Lib.hid (by rw [HAD.out, hrn]; rfl)
       clear hrn ha hc9
       obtain ⟨q0, q1, q2, q3, q4, qf0, qf1, qf2, qf3, qf4⟩ := (HRB.out w9 HB9.out).cells
       go_wp2_with fail
       refine bodyPost_ret (v := .tuple #[ZS, .int .i64 12]) (by simp [results, Tryz.results28, go_sem, ZS, q0, q1, q2, q3, q4]) rfl ?_
       exact HBAD.out 12 HA2.out (by decide) w9 HB9.out _ _ _ _ _
      | some s3 =>
       rw [ha] at hout hrn
       obtain ⟨rfl, hs3⟩ := hout
       have HREL : Hid (SAt (YT Y hb A (w.heap.size + 1)) w9 g ct cm ck (n2 + 1) s3 ∧ Fine s3 ∧ s3.next ≤ nx + (j + 1) ∧ n2 + 1 ≤ n + (j + 1) ∧ runM b.at' b.es true h.s = runM b.at' (b.es.drop (j + 1)) (decide (j + 1 = 0)) s3 ∧ Chg (XS g ct cm ck) W7 w9) := Lib.hid ⟨hs3, fine_apply HFI.out ha, by have := apply_next ha; have := HNX2.out; omega, by have := HN2.out; omega, by rw [hrn, decide_eq_false (by omega : ¬ j + 1 = 0)]; rfl, HC9.out⟩
       clear hrn ha hc9 hs3
       go_wp2_with fail
       go_roundw
       case rel =>
        obtain ⟨z1, z2, z3, z4, z5, z6⟩ := HREL.out
        exact ⟨j + 1, n2 + 1, s3, by omega, by go_num, z1, z2, z3, z4, z5, z6⟩
       case measure => simp [intOf]; omega
     | false =>
      have HA2 : Hid ((addM h b).1 = 12) := Lib.hid (by rw [HAD.out, HRUN.out, HDR.out, runM_not (by rw [← HOB.out, HJZ.out]; decide)])
      have HB8W := Lib.hid (HBR0.out W8 HC8.out)
      go_wp2_with fail
      refine HO.out.mono ?_
      rintro x wx ⟨rfl, rfl⟩
      obtain ⟨q0, q1, q2, q3, q4, qf0, qf1, qf2, qf3, qf4⟩ := (HRB.out W8 HB8W.out).cells
      go_wp2_with fail
      refine bodyPost_ret (v := .tuple #[ZS, .int .i64 12]) (by simp [results, Tryz.results28, go_sem, ZS, q0, q1, q2, q3, q4]) rfl ?_
      exact HBAD.out 12 HA2.out (by decide) W8 HB8W.out _ _ _ _ _
    ·have hz : ((j : Int) == 0) = false := by simp; omega
     have HJZ : Hid (decide (j = 0) = false) := Lib.hid (decide_eq_false hj0)
     clear hj0
     cases ob with
     | false =>
      go_wp2_with fail
      refine HO.out.mono ?_
      rintro x wx ⟨rfl, rfl⟩
      go_wp2_with fail
      refine (HAP.out _).mono ?_
      rintro x w9 ⟨hc9, hout⟩
      rw [HAL.out] at hout
      have hrn : runM b.at' b.es true h.s = (applyM at' (b.es.drop (j + 1)).isEmpty e s2).bind (runM b.at' (b.es.drop (j + 1)) false) := by rw [HRUN.out, HDR.out, runM_cons (by rw [← HOB.out, HJZ.out]), HAT.out]
      have HC9 := Lib.hid (HC8.out.trans hc9)
      have HB9 := Lib.hid (HBR0.out w9 HC9.out)
      cases ha : applyM at' (b.es.drop (j + 1)).isEmpty e s2 with
      | none =>
       rw [ha] at hout hrn
       obtain rfl := hout
       have HA2 : Hid ((addM h b).1 = 12) := Lib.hid (by rw [HAD.out, hrn]; rfl)
       clear hrn ha hc9
       obtain ⟨q0, q1, q2, q3, q4, qf0, qf1, qf2, qf3, qf4⟩ := (HRB.out w9 HB9.out).cells
       go_wp2_with fail
       refine bodyPost_ret (v := .tuple #[ZS, .int .i64 12]) (by simp [results, Tryz.results28, go_sem, ZS, q0, q1, q2, q3, q4]) rfl ?_
       exact HBAD.out 12 HA2.out (by decide) w9 HB9.out _ _ _ _ _
      | some s3 =>
       rw [ha] at hout hrn
       obtain ⟨rfl, hs3⟩ := hout
       have HREL : Hid (SAt (YT Y hb A (w.heap.size + 1)) w9 g ct cm ck (n2 + 1) s3 ∧ Fine s3 ∧ s3.next ≤ nx + (j + 1) ∧ n2 + 1 ≤ n + (j + 1) ∧ runM b.at' b.es true h.s = runM b.at' (b.es.drop (j + 1)) (decide (j + 1 = 0)) s3 ∧ Chg (XS g ct cm ck) W7 w9) := Lib.hid ⟨hs3, fine_apply HFI.out ha, by have := apply_next ha; have := HNX2.out; omega, by have := HN2.out; omega, by rw [hrn, decide_eq_false (by omega : ¬ j + 1 = 0)]; rfl, HC9.out⟩
       clear hrn ha hc9 hs3
       go_wp2_with fail
       go_roundw
       case rel =>
        obtain ⟨z1, z2, z3, z4, z5, z6⟩ := HREL.out
        exact ⟨j + 1, n2 + 1, s3, by omega, by go_num, z1, z2, z3, z4, z5, z6⟩
       case measure => simp [intOf]; omega
     | true =>
      have HA2 : Hid ((addM h b).1 = 12) := Lib.hid (by rw [HAD.out, HRUN.out, HDR.out, runM_not (by rw [← HOB.out, HJZ.out]; decide)])
      have HB8W := Lib.hid (HBR0.out W8 HC8.out)
      go_wp2_with fail
      refine HO.out.mono ?_
      rintro x wx ⟨rfl, rfl⟩
      obtain ⟨q0, q1, q2, q3, q4, qf0, qf1, qf2, qf3, qf4⟩ := (HRB.out W8 HB8W.out).cells
      go_wp2_with fail
      refine bodyPost_ret (v := .tuple #[ZS, .int .i64 12]) (by simp [results, Tryz.results28, go_sem, ZS, q0, q1, q2, q3, q4]) rfl ?_
      exact HBAD.out 12 HA2.out (by decide) W8 HB8W.out _ _ _ _ _
   ·have hj' : j = m := by omega
    have hfin : runM b.at' b.es true h.s = some s2 := by rw [HRUN.out, List.drop_eq_nil_of_le (by have := HM.out; omega)]; rfl
    have hadd : addM h b = (0, ⟨h.flow, h.bs ++ [b], s2⟩) := by rw [HAD.out, hfin]
    have HADD := Lib.hid hadd
    obtain ⟨c0, c1, c2, c3, c4, -, -, -, -, -⟩ := st_cells HSJ.out.blk
    obtain ⟨q0, q1, q2, q3, q4, qf0, qf1, qf2, qf3, qf4⟩ := (HRB.out wr HBR.out).cells
    have hnlt : decide ((j : Int) < (m : Int)) = false := decide_eq_false (by omega)
    subst hj'
    clear hfin hadd hlt hnlt
    go_wp2_with fail
    refine bodyPost_ret (v := .tuple #[.agg (stC ct cm ck s2.next s2.closed), .int .i64 0]) (by simp [results, Tryz.results28, go_sem, stC, q0, q1, q2, q3, q4]) rfl ?_
    refine ⟨below5 (HBW.out wr HBR.out) (Nat.le_succ _) _ _ _ _ _, .inr ⟨by rw [HADD.out], ct, cm, ck, n2, by rw [HADD.out], ?_, by have := HN2.out; have := H0.out.nn; have := HM.out; omega, ?_, ?_, ?_⟩⟩
    ·rw [HADD.out]
     have hoth : ∀ c, c ≠ w.heap.size + 1 → ∀ x0 x1 x2 x3 x4, (((((wr.setCell ⟨w.heap.size + 1, 0, none⟩ x0).setCell ⟨w.heap.size + 1, 1, none⟩ x1).setCell ⟨w.heap.size + 1, 2, none⟩ x2).setCell ⟨w.heap.size + 1, 3, none⟩ x3).setCell ⟨w.heap.size + 1, 4, none⟩ x4).heap[c]? = wr.heap[c]? := fun c hc x0 x1 x2 x3 x4 => by
      rw [RowKit.Below.heap_setCell _ _ _ _ hc, RowKit.Below.heap_setCell _ _ _ _ hc, RowKit.Below.heap_setCell _ _ _ _ hc, RowKit.Below.heap_setCell _ _ _ _ hc, RowKit.Below.heap_setCell _ _ _ _ hc]
     obtain ⟨k1, k2, k3⟩ := HCT2.out
     obtain ⟨k4, k5⟩ := HZ56.out
     have k6 := HZ.out
     exact ⟨HSJ.out.maps.tasks.keep (hoth _ (by omega) _ _ _ _ _) (leads_veils (by simp [World.setCell]) fun c hc hx => ⟨fun q => hx (.inl (.inl q)), hoth c (fun q => hx (.inl (.inr q))) _ _ _ _ _⟩), HSJ.out.maps.timers.keep (hoth _ (by omega) _ _ _ _ _), HSJ.out.maps.keys.keep (hoth _ (by omega) _ _ _ _ _)⟩
    all_goals (obtain ⟨k1, k2, k3⟩ := HCT2.out; obtain ⟨k4, k5⟩ := HZ56.out; have k6 := HZ.out; omega)
end Hi
end Go.Proofs.YtkajcldmolcllaaGreat
