/- The reference's outside: the reference's command: scheduled. -/
import Derived.Laws.Rows
import Derived.Laws.IdiomRangeMap
import Derived.Test.YtfmnacebgplpcaaGreatIcao
import Derived.Test.YtfmnacebgplpcaaGreatIcaq
import Derived.Test.YtfmnacebgplpcaaGreatIcan
set_option linter.unusedVariables false
set_option linter.unusedSimpArgs false
open Go.RowKit
namespace Go.Proofs.YtfmnacebgplpcaaGreat
namespace Hi
open _root_.Go.Proofs.YtfmnacebgplpcaaGreat.Nm (ret_int ret_bool)
open Vt (VT Rep below_drew Cloned put5)
open Ev (EV FieldsOk evCells vCells EBox take_drop tk ap rd1 rd2 cons_drop)
open Cm (rowOf EvsIn)
open Cn (BT BB BtsIn box_ev)
variable {X X' Y Y' : Nat → Prop} {u v w w' V V' : World} {hb bt bm bk n cap : Nat} {A : Option Addr} {h : HM}
namespace Q352
theorem Y348 {p : Prop} (h : p := by
 clear qf xf hx6 hq6 hbF1
 rw [← hw6]
 clear hw6
 clear hy6 he6
 go_wp2_with fail
 refine bodyPost_ret (v := .tuple #[.agg #[.string f, .slice Bu nu cu, .int .i64 s.closed, .int .u64 ((s.next : Int) + 1), .slice Ak nk ck, .slice Ar (L + 1) cr, .slice Am nm cm], .bool true]) (by simp [results, Tryz.results67, go_sem, q0, q1, q2, q3, q4, q5, q6]) rfl ?_
 obtain ⟨W7, hW7⟩ : ∃ W7, W7 = ((((((w6.setCell ⟨w.heap.size + 1 + 1, 0, none⟩ (.string f)).setCell ⟨w.heap.size + 1 + 1, 1, none⟩ (.slice Bu nu cu)).setCell ⟨w.heap.size + 1 + 1, 2, none⟩ (.int .i64 s.closed)).setCell ⟨w.heap.size + 1 + 1, 3, none⟩ (.int .u64 ((s.next : Int) + 1))).setCell ⟨w.heap.size + 1 + 1, 4, none⟩ (.slice Ak nk ck)).setCell ⟨w.heap.size + 1 + 1, 5, none⟩ (.slice Ar (L + 1) cr)).setCell ⟨w.heap.size + 1 + 1, 6, none⟩ (.slice Am nm cm) := ⟨_, rfl⟩
 rw [← hW7]
 exact HOUT.out _ true cF W7 Ar cr (fun _ => rfl) rfl HN.out HOF.out HBRF.out HBF.out (by rw [hW7]; exact below7 (g := w.heap.size + 1 + 1) HB6.out (Nat.le_succ_of_le (Nat.le_succ _)) _ _ _ _ _ _ _) (fun r h1 h2 => by rw [hW7, heap7 h2, HW6.out]; exact RowKit.Below.heap_setCell _ _ _ _ h1)) : p := h
end Q352
namespace Q321
theorem Y319 {p : Prop} (h : p := by
 refine tk 15 rfl ?_
 try simp only [ap]
 obtain ⟨cx, fx⟩ := HCX.out cF HBF.out
 refine rd1 16 rfl fun K hK => ?_
 go_simp
 refine hK.out _ _ (HKS2.out _ _ HBF.out) (fun hHeldZ => ?_)
 clear hK K hH01ABL
 try simp only [ap]
 refine wpAnyH_done (by kernel_rfl) ?_ _
 refine NoPanic.normal ?_
 clear hHeldZ cx fx
 obtain ⟨w6, hw6⟩ : ∃ w6, w6 = cF.setCell ⟨w.heap.size, 5, none⟩ (.slice Ar (L + 1) cr) := ⟨_, rfl⟩
 have hbF1 : Below W2.heap.size W2 cF := HBu1.out _ HBF.out
 have hx6 : RX w6 w.heap.size f (.slice Bu nu cu) s.closed (s.next + 1) (.slice Ak nk ck) (.slice Ar (L + 1) cr) (.slice Am nm cm) := by rw [hw6]; exact (HX2.out cF hbF1).1.set5
 have hq6 : RX w6 (w.heap.size + 1 + 1) ⟨#[]⟩ (.slice none 0 0) 0 0 (.slice none 0 0) (.slice none 0 0) (.slice none 0 0) := by rw [hw6]; exact (HX2.out cF hbF1).2.2.1.far (by omega)
 have hy6 : BB w6 (w.heap.size + 1) ff at' (some ⟨eb, eo, none⟩) m cap := by rw [hw6]; exact (RowKit.Below.heap_setCell _ _ _ _ (by show w.heap.size + 1 ≠ w.heap.size; omega)).trans (HX2.out cF hbF1).2.1
 have he6 : EBox w6 (w.heap.size + 3) (evCells ⟨7, id, en, ea, name, text, ev⟩ vk vn vf vs A0 m0 c0) := by rw [hw6]; exact (RowKit.Below.heap_setCell _ _ _ _ (by show w.heap.size + 3 ≠ w.heap.size; omega)).trans (HX2.out cF hbF1).2.2.2
 have HB6 : Hid (Below w.heap.size w w6) := Lib.hid (by rw [hw6]; exact (HBW2.out cF hbF1).setCell (p := ⟨w.heap.size, 5, none⟩) (Nat.le_refl _) _)
 have HW6 := Lib.hid hw6
 obtain ⟨x0, x1, x2, x3, x4, x5, x6, xf⟩ := hx6.cells
 rw [show ((s.next + 1 : Nat) : Int) = (s.next : Int) + 1 from rfl] at x3
 open Q352 in exact M348) : p := h
end Q321
theorem M1 {p : Prop} (h : p := by
 try simp only [ap]
 refine rd1 14 rfl fun K hK => ?_
 refine step_append_any zw01A rfl _ _ 49 133 rfl i0 _ 10 112 Tryz.underlying49 HSZ.out hi0 hz0 hz1 hz2 rfl (by decide) u0.heap.size v1 (.slice (some ⟨ib, 0, none⟩) 1 1) L 1 xs (#[Value.int .u64 (id : Nat), .string name, .int .i64 vk, .int .i64 vn, .float .f64 vf, .string vs, .slice A0 m0 c0, .int .i64 0, .bool false, .int .u64 (at' : Nat)] : Array Value).toList rfl rfl own1_01A.out one_01A.out (by simp only [maxLen]; omega) (by omega) HB01A.out.size ?_
 open Q321 in exact M319) : p := h
namespace Q373
theorem Y371 {p : Prop} (h : p := by
 have one_01A : Hid (CIn zw01A (.slice (some ⟨ib, 0, none⟩) 1 1) 1 10 (#[Value.int .u64 (id : Nat), .string name, .int .i64 vk, .int .i64 vn, .float .f64 vf, .string vs, .slice A0 m0 c0, .int .i64 0, .bool false, .int .u64 (at' : Nat)] : Array Value).toList) := Lib.hid (by rw [hc01A, hib]; exact CIn.new zw0A _ _ rfl HONE.out)
 have own1_01A := Lib.hid (own_stay own1_0A.out hbz)
 clear hbz
 replace hc01A := Lib.hid hc01A
 replace hib := Lib.hid hib
 refine hK.out _ _ (HKS.out _ HB01A.out) (fun hH01AL => ?_)
 clear hK K hH0AL
 exact M1) : p := h
end Q373
namespace Q295
theorem Y291 {p : Prop} (h : p := by
 refine rd1 13 rfl fun K hK => ?_
 go_simp
 obtain ⟨zw01A, hc01A⟩ : ∃ u, u = zw0A.alloc (.cells (#[Value.int .u64 (id : Nat), .string name, .int .i64 vk, .int .i64 vn, .float .f64 vf, .string vs, .slice A0 m0 c0, .int .i64 0, .bool false, .int .u64 (at' : Nat)] : Array Value) 133) := ⟨_, rfl⟩
 open Q373 in exact M371) : p := h
end Q295
namespace Q301
theorem Y299 {p : Prop} (h : p := by
 clear hK K hH01L
 exact M1) : p := h
end Q301
theorem M25 {p : Prop} (h : p := by
 refine rd1 3 rfl fun K hK => ?_
 refine step_append_any zw01 rfl _ _ 49 133 rfl i0 _ 10 112 Tryz.underlying49 HSZ.out hi0 hz0 hz1 hz2 rfl (by decide) u0.heap.size (.slice (some ⟨ia, 0, none⟩) 0 0) (.slice Aq L ct) 0 L [] xs rfl rfl own0_01.out (HIN.out _ HB01.out) (by simp only [maxLen]; omega) (by omega) HB01.out.size ?_
 open Q301 in exact M299) : p := h
namespace Q363
theorem Y360 {p : Prop} (h : p := by
 refine hK.out _ _ (HKS.out _ HB01.out) (fun hH01L => ?_)
 clear hK K hH0L
 try simp only [ap]
 exact M25) : p := h
end Q363
namespace Q255
theorem Y252 {p : Prop} (h : p := by
 have one_01 : Hid (CIn zw01 (.slice (some ⟨ib, 0, none⟩) 1 1) 1 10 (#[Value.int .u64 (id : Nat), .string name, .int .i64 vk, .int .i64 vn, .float .f64 vf, .string vs, .slice A0 m0 c0, .int .i64 0, .bool false, .int .u64 (at' : Nat)] : Array Value).toList) := Lib.hid (by rw [hc01, hib]; exact CIn.new zw0 _ _ rfl HONE.out)
 open Q363 in exact M360) : p := h
end Q255
theorem M15 {p : Prop} (h : p := by
 refine rd2 3 13 rfl rfl (fun K hK => ?_) fun K hK => ?_
 ·refine step_append_any zw0 rfl _ _ 49 133 rfl i0 _ 10 112 Tryz.underlying49 HSZ.out hi0 hz0 hz1 hz2 rfl (by decide) u0.heap.size (.slice (some ⟨ia, 0, none⟩) 0 0) (.slice Aq L ct) 0 L [] xs rfl rfl own0_0.out (HIN.out _ HB0.out) (by simp only [maxLen]; omega) (by omega) HB0.out.size ?_
  open Q295 in exact M291
 ·go_simp
  obtain ⟨zw01, hc01⟩ : ∃ u, u = zw0.alloc (.cells (#[Value.int .u64 (id : Nat), .string name, .int .i64 vk, .int .i64 vn, .float .f64 vf, .string vs, .slice A0 m0 c0, .int .i64 0, .bool false, .int .u64 (at' : Nat)] : Array Value) 133) := ⟨_, rfl⟩
  open Q255 in exact M252) : p := h
namespace Q407
theorem Y404 {p : Prop} (h : p := by
 refine hK.out _ _ (HKS.out _ HB01.out) (fun hH01L => ?_)
 clear hK K hH1L
 try simp only [ap]
 exact M25) : p := h
end Q407
namespace Q313
theorem Y311 {p : Prop} (h : p := by
 have own0_01 : Hid (zw01.ownsRow u0.heap.size 133 10 (.slice (some ⟨ia, 0, none⟩) 0 0) 0 []) := Lib.hid (by rw [hc01, hia]; exact World.ownsRow_lit zw1 #[] 0 HB1.out.size (Nat.zero_le _) (by simp))
 open Q407 in exact M404) : p := h
end Q313
theorem M43 {p : Prop} (h : p := by
 refine rd1 0 rfl fun K hK => ?_
 go_simp
 obtain ⟨zw01, hc01⟩ : ∃ u, u = zw1.alloc (.cells #[] 133) := ⟨_, rfl⟩
 open Q313 in exact M311) : p := h
theorem M66 {p : Prop} (h : p := by
 have k1 : ((id : Int) == (s.next : Int)) = false := by simp; omega
 have k1' : ((id : Int) != (s.next : Int)) = true := by simp; omega
 go_wp2_with fail
 refine bodyPost_ret (v := .tuple #[.agg #[.string f, .slice Bu nu cu, .int .i64 s.closed, .int .u64 (s.next : Nat), .slice Ak nk ck, .slice Aq nt ct, .slice Am nm cm], .bool false]) (by simp [results, Tryz.results67, go_sem, q0, q1, q2, q3, q4, q5, q6]) rfl ?_
 exact ⟨below7 (HBW.out W1 (Below.refl _ _)) (Nat.le_succ_of_le (Nat.le_succ _)) _ _ _ _ _ _ _, s.closed, s.next, .slice Ak nk ck, .slice Aq nt ct, .slice Am nm cm, ⟨_, _, _, rfl⟩, ⟨_, _, _, rfl⟩, ⟨_, _, _, rfl⟩, by rw [HN.out]; rfl, fun s' hs => by rw [HN.out] at hs; cases hs⟩) : p := h
theorem M74 {p : Prop} (h : p := by
 have hs1 := HS1.out
 obtain ⟨r1, r2, r3, r4⟩ := HX.out W1 (Below.refl _ _)
 have o : ∀ c, c < w.heap.size + 4 → c ≠ w.heap.size → W.heap[c]? = W1.heap[c]? := fun c hc hne => (hW.block c (by omega)).trans (by rw [hW2]; exact RowKit.Below.heap_setCell _ _ _ _ hne)
 refine ⟨(hW.block _ (by omega)).trans ?_, (o _ (by omega) (by omega)).trans r2, (o _ (by omega) (by omega)).trans r3, (o _ (by omega) (by omega)).trans r4⟩
 rw [hW2]; exact r1.set3) : p := h
theorem M103 {p : Prop} (h : p := by
 try simp only [ap]
 refine rd1 2 rfl fun K hK => ?_
 obtain ⟨cx, -⟩ := HCX.out zw01 HB01.out
 go_simp
 refine hK.out _ _ (HKS.out _ HB01.out) (fun hH01L => ?_)
 clear hK K hH01
 try simp only [ap]
 clear cx
 exact M25) : p := h
theorem M119 {p : Prop} (h : p := by
 obtain ⟨-, d2, -, d4⟩ := HX2.out W (HBu1.out W hW)
 obtain ⟨g0, g1, g2, g3, g4, g5, g6, g7, g8, g9, g10⟩ := EBox.cells d4
 exact ⟨g1, g3, g4, g6, g7, g8, g9, g10, (BB.cells d2).2.1⟩) : p := h
namespace Q364
theorem Y360 {p : Prop} (h : p := by
 refine hK.out _ _ (HKS.out _ HB01.out) (fun hH01 => ?_)
 clear hK K hH0
 exact M103) : p := h
end Q364
namespace Q256
theorem Y252 {p : Prop} (h : p := by
 have one_01 : Hid (CIn zw01 (.slice (some ⟨ib, 0, none⟩) 1 1) 1 10 (#[Value.int .u64 (id : Nat), .string name, .int .i64 vk, .int .i64 vn, .float .f64 vf, .string vs, .slice A0 m0 c0, .int .i64 0, .bool false, .int .u64 (at' : Nat)] : Array Value).toList) := Lib.hid (by rw [hc01, hib]; exact CIn.new zw0 _ _ rfl HONE.out)
 open Q364 in exact M360) : p := h
end Q256
namespace Q283
theorem Y280 {p : Prop} (h : p := by
 have one_1 : Hid (CIn zw1 (.slice (some ⟨ib, 0, none⟩) 1 1) 1 10 (#[Value.int .u64 (id : Nat), .string name, .int .i64 vk, .int .i64 vn, .float .f64 vf, .string vs, .slice A0 m0 c0, .int .i64 0, .bool false, .int .u64 (at' : Nat)] : Array Value).toList) := Lib.hid (by rw [hc1, hib]; exact CIn.new u0 _ _ rfl HONE.out)
 clear hbz
 replace hc1 := Lib.hid hc1
 replace hib := Lib.hid hib
 refine hK.out _ _ (HKS.out _ HB1.out) (fun hH1L => ?_)
 clear hK K hHL
 try simp only [ap]
 exact M43) : p := h
end Q283
namespace Q408
theorem Y404 {p : Prop} (h : p := by
 refine hK.out _ _ (HKS.out _ HB01.out) (fun hH01 => ?_)
 clear hK K hH1
 exact M103) : p := h
end Q408
namespace Q316
theorem Y311 {p : Prop} (h : p := by
 have own0_01 : Hid (zw01.ownsRow u0.heap.size 133 10 (.slice (some ⟨ia, 0, none⟩) 0 0) 0 []) := Lib.hid (by rw [hc01, hia]; exact World.ownsRow_lit zw1 #[] 0 HB1.out.size (Nat.zero_le _) (by simp))
 open Q408 in exact M404) : p := h
end Q316
namespace Q284
theorem Y280 {p : Prop} (h : p := by
 have one_1 : Hid (CIn zw1 (.slice (some ⟨ib, 0, none⟩) 1 1) 1 10 (#[Value.int .u64 (id : Nat), .string name, .int .i64 vk, .int .i64 vn, .float .f64 vf, .string vs, .slice A0 m0 c0, .int .i64 0, .bool false, .int .u64 (at' : Nat)] : Array Value).toList) := Lib.hid (by rw [hc1, hib]; exact CIn.new u0 _ _ rfl HONE.out)
 clear hbz
 replace hc1 := Lib.hid hc1
 replace hib := Lib.hid hib
 refine hK.out _ _ (HKS.out _ HB1.out) (fun hH1 => ?_)
 clear hK K hHeld
 try simp only [ap]
 refine rd2 0 2 rfl rfl (fun K hK => ?_) fun K hK => ?_
 ·go_simp
  obtain ⟨zw01, hc01⟩ : ∃ u, u = zw1.alloc (.cells #[] 133) := ⟨_, rfl⟩
  open Q316 in exact M311
 ·obtain ⟨cx, -⟩ := HCX.out zw1 HB1.out
  go_simp
  refine hK.out _ _ (HKS.out _ HB1.out) (fun hH1L => ?_)
  clear hK K hH1
  try simp only [ap]
  clear cx
  exact M43) : p := h
end Q284
namespace Q338
theorem Y334 {p : Prop} (h : p := by
 have own0_0 : Hid (zw0.ownsRow u0.heap.size 133 10 (.slice (some ⟨ia, 0, none⟩) 0 0) 0 []) := Lib.hid (by rw [hc0, hia]; exact World.ownsRow_lit u0 #[] 0 HBu.out.size (Nat.zero_le _) (by simp))
 clear hbz
 replace hc0 := Lib.hid hc0
 replace hia := Lib.hid hia
 refine hK.out _ _ (HKS.out _ HB0.out) (fun hH0 => ?_)
 clear hK K hHeld
 try simp only [ap]
 refine rd2 2 13 rfl rfl (fun K hK => ?_) fun K hK => ?_
 ·obtain ⟨cx, -⟩ := HCX.out zw0 HB0.out
  go_simp
  refine hK.out _ _ (HKS.out _ HB0.out) (fun hH0L => ?_)
  clear hK K hH0
  try simp only [ap]
  clear cx
  exact M15
 ·go_simp
  obtain ⟨zw01, hc01⟩ : ∃ u, u = zw0.alloc (.cells (#[Value.int .u64 (id : Nat), .string name, .int .i64 vk, .int .i64 vn, .float .f64 vf, .string vs, .slice A0 m0 c0, .int .i64 0, .bool false, .int .u64 (at' : Nat)] : Array Value) 133) := ⟨_, rfl⟩
  open Q256 in exact M252) : p := h
end Q338
namespace Q339
theorem Y334 {p : Prop} (h : p := by
 have own0_0 : Hid (zw0.ownsRow u0.heap.size 133 10 (.slice (some ⟨ia, 0, none⟩) 0 0) 0 []) := Lib.hid (by rw [hc0, hia]; exact World.ownsRow_lit u0 #[] 0 HBu.out.size (Nat.zero_le _) (by simp))
 clear hbz
 replace hc0 := Lib.hid hc0
 replace hia := Lib.hid hia
 refine hK.out _ _ (HKS.out _ HB0.out) (fun hH0L => ?_)
 clear hK K hHL
 try simp only [ap]
 exact M15) : p := h
end Q339
set_option maxRecDepth 100000 in
set_option maxHeartbeats 4000000 in
theorem cmd7_any (s : ST) (f : ByteArray) (Bu : Option Addr) (nu cu : Nat) (uk ut um : Value) (b : BT) (A : Option Addr) (cap : Nat) (w : World) (h : OIn X w s uk ut um b A cap) (i : Nat) (hp : i < b.es.length) (he : EvOk (b.es[i]'hp)) (hk : b.es[i].k = 7) :
  Calls Tryz.prog 67 #[.agg (rhC f (.slice Bu nu cu) s.closed s.next uk ut um), .agg #[.string b.flow, .int .u64 (b.at' : Nat), .slice A b.es.length cap], .int .i64 (i : Nat)] w (ROut X w f (.slice Bu nu cu) (applyM b.at' (decide (i + 1 = b.es.length)) (b.es[i]'hp) s)) := by
 obtain ⟨Ak, nk, ck, rfl⟩ : ∃ A n c, uk = .slice A n c := by obtain ⟨xs, ⟨-, -, A, c, e, -⟩, -⟩ := h.rs.keys; exact ⟨_, _, _, e⟩
 obtain ⟨Aq, nt, ct, rfl⟩ : ∃ A n c, ut = .slice A n c := by obtain ⟨xs, ⟨-, -, A, c, e, -⟩, -⟩ := h.rs.tasks; exact ⟨_, _, _, e⟩
 obtain ⟨Am, nm, cm, rfl⟩ : ∃ A n c, um = .slice A n c := by obtain ⟨xs, ⟨-, -, A, c, e, -⟩, -⟩ := h.rs.timers; exact ⟨_, _, _, e⟩
 obtain ⟨eb, eo, lo0, hi0, vk, vn, vf, vs, A0, m0, c0, rfl, heb, hff, hrep, hhi, z0, z1, z2, z3, z4, z5, z6, z7, z8, z9, z10⟩ := h.evs.get i hp
 have hrepV := hrep
 replace hrep := Rep.leads hrep (leads_veil X w)
 rw [veil_size] at heb hhi
 replace z0 := (leads_veil X w).cell z0
 replace z1 := (leads_veil X w).cell z1
 replace z2 := (leads_veil X w).cell z2
 replace z3 := (leads_veil X w).cell z3
 replace z4 := (leads_veil X w).cell z4
 replace z5 := (leads_veil X w).cell z5
 replace z6 := (leads_veil X w).cell z6
 replace z7 := (leads_veil X w).cell z7
 replace z8 := (leads_veil X w).cell z8
 replace z9 := (leads_veil X w).cell z9
 replace z10 := (leads_veil X w).cell z10
 have hle := h.evs.le
 have hcm := h.evs.cap_le
 simp only [maxLen] at hcm
 obtain ⟨m, hm⟩ : ∃ m, m = b.es.length := ⟨_, rfl⟩
 obtain ⟨ff, hf0⟩ : ∃ ff, ff = b.flow := ⟨_, rfl⟩
 obtain ⟨at', hat⟩ : ∃ at', at' = b.at' := ⟨_, rfl⟩
 obtain ⟨e, hee⟩ : ∃ e, e = b.es[i]'hp := ⟨_, rfl⟩
 have hbat := h.at'
 rw [← hat] at hbat
 rw [← hee] at hff hrep hrepV z0 z1 z2 z3 z4 z5 he hk ⊢
 have HRV := Lib.hid h.rs; have HRS := Lib.hid (h.rs.leads (leads_veil X w)); have HXB := Lib.hid h.xb; have HFI := Lib.hid h.fine; have hn1 := h.n1; have hn2 := h.n2; have hn3 := h.n3; have hn4 := h.n4
 rw [← hm] at hle ⊢
 rw [← hf0, ← hat]
 have hmp : i < m := by omega
 clear h hee hat hf0 hm hp
 obtain ⟨k, id, en, ea, name, text, ev⟩ := e
 have hid := he.f.i1
 dsimp only at hid hk hrep hrepV hff z0 z1 z2 z3 z4 z5 z6 z7 z8 z9 z10
 obtain rfl : k = 7 := hk
 have HE := Lib.hid he
 obtain ⟨W0, hW0⟩ : ∃ W0, W0 = ((w.alloc (.cells (rhC f (.slice Bu nu cu) s.closed s.next (.slice Ak nk ck) (.slice Aq nt ct) (.slice Am nm cm)) 52)).alloc (.cells #[.string ff, .int .u64 (at' : Nat), .slice (some ⟨eb, eo, none⟩) m cap] 33)).alloc (.cells (rhC ⟨#[]⟩ (.slice none 0 0) 0 0 (.slice none 0 0) (.slice none 0 0) (.slice none 0 0)) 52) := ⟨_, rfl⟩
 obtain ⟨W1, hW1⟩ : ∃ W1, W1 = W0.alloc (.cells (evCells ⟨7, id, en, ea, name, text, ev⟩ vk vn vf vs A0 m0 c0) 71) := ⟨_, rfl⟩
 have hs0 : W0.heap.size = w.heap.size + 3 := by rw [hW0]; simp
 have hs1 : W1.heap.size = w.heap.size + 4 := by rw [hW1]; simp [hs0]
 have hb0 : Below w.heap.size w W0 := by rw [hW0]; exact (((Below.refl _ _).alloc (Nat.le_refl _) _).alloc (by simp) _).alloc (by simp; omega) _
 have hb1 : Below w.heap.size w W1 := by rw [hW1]; exact hb0.alloc (by omega) _
 have hx0 : W0.heap[w.heap.size]? = some (.cells (rhC f (.slice Bu nu cu) s.closed s.next (.slice Ak nk ck) (.slice Aq nt ct) (.slice Am nm cm)) 52 (0, 0)) := by rw [hW0]; exact (heap_alloc_old _ _ (by simp; omega)).trans ((heap_alloc_old _ _ (by simp)).trans (heap_alloc_new w _))
 have hx1 : W0.heap[w.heap.size + 1]? = some (.cells #[.string ff, .int .u64 (at' : Nat), .slice (some ⟨eb, eo, none⟩) m cap] 33 (0, 0)) := by
  exact M56
 have hx2 : W0.heap[w.heap.size + 2]? = some (.cells (rhC ⟨#[]⟩ (.slice none 0 0) 0 0 (.slice none 0 0) (.slice none 0 0) (.slice none 0 0)) 52 (0, 0)) := by
  exact M32
 have HX : Hid (∀ W, Below W1.heap.size W1 W → RX W w.heap.size f (.slice Bu nu cu) s.closed s.next (.slice Ak nk ck) (.slice Aq nt ct) (.slice Am nm cm) ∧ BB W (w.heap.size + 1) ff at' (some ⟨eb, eo, none⟩) m cap ∧ RX W (w.heap.size + 1 + 1) ⟨#[]⟩ (.slice none 0 0) 0 0 (.slice none 0 0) (.slice none 0 0) (.slice none 0 0) ∧ EBox W (w.heap.size + 3) (evCells ⟨7, id, en, ea, name, text, ev⟩ vk vn vf vs A0 m0 c0)) := Lib.hid fun W hW => by
  exact M48
 have HBW : Hid (∀ W, Below W1.heap.size W1 W → Below w.heap.size w W) := Lib.hid fun W hW => hb1.trans (hW.mono hb1.size)
 have HS1 := Lib.hid hs1; have HB1 := Lib.hid hb1
 obtain ⟨y0, y1, y2, -⟩ := BB.cells (show BB W0 (w.heap.size + 1) ff at' (some ⟨eb, eo, none⟩) m cap from hx1)
 obtain ⟨x0, x1, x2, x3, x4, x5, x6, -⟩ := (HX.out W1 (Below.refl _ _)).1.cells
 have e0 := (hb0.cell (p := ⟨eb, eo + i * 11, none⟩) heb).trans z0
 have e1 := (hb0.cell (p := ⟨eb, eo + i * 11 + 1, none⟩) heb).trans z1
 have e2 := (hb0.cell (p := ⟨eb, eo + i * 11 + 2, none⟩) heb).trans z2
 have e3 := (hb0.cell (p := ⟨eb, eo + i * 11 + 3, none⟩) heb).trans z3
 have e4 := (hb0.cell (p := ⟨eb, eo + i * 11 + 4, none⟩) heb).trans z4
 have e5 := (hb0.cell (p := ⟨eb, eo + i * 11 + 5, none⟩) heb).trans z5
 have e6 := (hb0.cell (p := ⟨eb, eo + i * 11 + 6, none⟩) heb).trans z6
 have e7 := (hb0.cell (p := ⟨eb, eo + i * 11 + 7, none⟩) heb).trans z7
 have e8 := (hb0.cell (p := ⟨eb, eo + i * 11 + 8, none⟩) heb).trans z8
 have e9 := (hb0.cell (p := ⟨eb, eo + i * 11 + 9, none⟩) heb).trans z9
 have e10 := (hb0.cell (p := ⟨eb, eo + i * 11 + 10, none⟩) heb).trans z10
 have HREP := Lib.hid hrep; have HREPV := Lib.hid hrepV; have HHI := Lib.hid hhi
 unfold rhC at hW0 ⊢
 unfold evCells at hW1
 dsimp only at hW1
 rw [show ((0 : Nat) : Int) = 0 from rfl] at hW0
 have hWs := Lib.hid hs0
 clear hs0 hs1 hb0 hb1 hx0 hx1 hx2 z0 z1 z2 z3 z4 z5 z6 z7 z8 z9 z10 hrep hrepV hhi hff he heb
 replace hW0 := Lib.hid hW0
 replace hW1 := Lib.hid hW1
 obtain ⟨al, hal⟩ : ∃ al, al = decide (i + 1 = m) := ⟨_, rfl⟩
 have hm1 : ((i : Int) == (m : Int) - 1) = al := by
  exact M92
 rw [← hal]
 have HAL := Lib.hid hal
 clear hal
 go_enter Tryz.func67, Tryz.ntmps67
 go_upto_region 1 with fail
 rw [← hW0.out]
 go_upto_region 2 with fail
 rw [← hW1.out]
 rw [show W0.heap.size = w.heap.size + 3 from hWs.out]
 clear y0 y1 y2 e0 e1 e2 e3 e4 e5 e6 e7 e8 e9 e10
 clear x0 x1 x2 x3 x4 x5 x6
 obtain ⟨x0, x1, x2, x3, x4, x5, x6, xf⟩ := (HX.out W1 (Below.refl _ _)).1.cells
 obtain ⟨y0, y1, y2, -⟩ := (HX.out W1 (Below.refl _ _)).2.1.cells
 obtain ⟨e0, e1, e2, e3, e4, e5, e6, e7, e8, e9, e10⟩ := EBox.cells (HX.out W1 (Below.refl _ _)).2.2.2
 dsimp only at e0 e1 e2 e3 e4 e5
 obtain ⟨q0, q1, q2, q3, q4, q5, q6, qf⟩ := (HX.out W1 (Below.refl _ _)).2.2.1.cells
 rw [show ((0 : Nat) : Int) = 0 from rfl] at q3
 have qf0 := qf 0; have qf1 := qf 1; have qf2 := qf 2; have qf3 := qf 3; have qf4 := qf 4; have qf5 := qf 5; have qf6 := qf 6
 clear qf
 by_cases h1 : id = s.next
 rotate_left
 ·have HN : Hid (applyM at' al ⟨7, id, en, ea, name, text, ev⟩ s = none) := Lib.hid (by simp [applyM, h1])
  exact M66
 have k1 : ((id : Int) == (s.next : Int)) = true := by simp; omega
 have k1' : ((id : Int) != (s.next : Int)) = false := by simp; omega
 have H1 := Lib.hid h1
 clear h1
 obtain ⟨xs, hcinV, hst⟩ := HRV.out.tasks
 have hcin := hcinV.leads (leads_veil X w)
 clear hcinV
 have HCI := Lib.hid hcin; have HST := Lib.hid hst
 obtain ⟨rfl, hkc⟩ : nt = s.tasks.length ∧ s.tasks.length ≤ ct := by obtain ⟨-, -, A9, cap9, heq9, hle9, -, -⟩ := hcin; injection heq9 with a1 a2 a3; exact ⟨a2, by rw [a3]; exact hle9⟩
 obtain ⟨i0, hi0, hz0, hz1, hz2⟩ := info_parts Tryz.infoRt
 have HSZ := Lib.hid (sz_of hi0 hz1)
 have HONE : Hid (∀ x ∈ (#[Value.int .u64 (id : Nat), .string name, .int .i64 vk, .int .i64 vn, .float .f64 vf, .string vs, .slice A0 m0 c0, .int .i64 0, .bool false, .int .u64 (at' : Nat)] : Array Value).toList, x.oneCell' = true) := Lib.hid (by intro x hx; simp at hx; rcases hx with rfl | rfl | rfl | rfl | rfl | rfl | rfl | rfl | rfl | rfl <;> rfl)
 clear hcin hst
 obtain ⟨L, hL⟩ : ∃ L, L = s.tasks.length := ⟨_, rfl⟩
 have HLL := Lib.hid hL
 obtain ⟨W2, hW2⟩ : ∃ W2, W2 = W1.setCell ⟨w.heap.size, 3, none⟩ (.int .u64 ((s.next : Int) + 1)) := ⟨_, rfl⟩
 rw [← hL] at hkc hn1 HX x5
 have hb2 : Below w.heap.size w W2 := by rw [hW2]; exact (HBW.out W1 (Below.refl _ _)).setCell (p := ⟨w.heap.size, 3, none⟩) (Nat.le_refl _) _
 have hz2' : W2.heap.size = W1.heap.size := by rw [hW2]; simp [World.setCell]
 have HX2 : Hid (∀ W, Below W2.heap.size W2 W → RX W w.heap.size f (.slice Bu nu cu) s.closed (s.next + 1) (.slice Ak nk ck) (.slice Aq L ct) (.slice Am nm cm) ∧ BB W (w.heap.size + 1) ff at' (some ⟨eb, eo, none⟩) m cap ∧ RX W (w.heap.size + 1 + 1) ⟨#[]⟩ (.slice none 0 0) 0 0 (.slice none 0 0) (.slice none 0 0) (.slice none 0 0) ∧ EBox W (w.heap.size + 3) (evCells ⟨7, id, en, ea, name, text, ev⟩ vk vn vf vs A0 m0 c0)) := Lib.hid fun W hW => by
  exact M74
 have HBW2 : Hid (∀ W, Below W2.heap.size W2 W → Below w.heap.size w W) := Lib.hid fun W hW => hb2.trans (hW.mono hb2.size)
 have HZ22 := Lib.hid hz2'
 clear hL hb2 hz2'
 replace hW2 := Lib.hid hW2
 have kn := IntWalk.u64_in ((s.next : Int) + 1) (by omega)
 go_upto_region 9 with fail
 rw [← hW2.out]
 clear kn
 clear x0 x1 x2 x3 x4 x5 x6 xf y0 y1 y2 e0 e1 e2 e3 e4 e5 e6 e7 e8 e9 e10 q0 q1 q2 q3 q4 q5 q6 qf0 qf1 qf2 qf3 qf4 qf5 qf6
 obtain ⟨u0, hu0⟩ : ∃ u, u = W2.drew := ⟨_, rfl⟩
 have HBu1 : Hid (∀ W, Below u0.heap.size u0 W → Below W2.heap.size W2 W) := Lib.hid fun W hW => by rw [hu0] at hW; exact (below_drew (Below.refl W2.heap.size W2)).trans (hW.mono (Nat.le_refl _))
 have HBu0 : Hid (W1.heap.size ≤ u0.heap.size) := Lib.hid (by rw [hu0, ← HZ22.out]; exact Nat.le_refl _)
 have HBu : Hid (Below u0.heap.size u0 u0) := Lib.hid (Below.refl _ _)
 have HKS : Hid (∀ W, Below u0.heap.size u0 W → (fun W : World => W.cell? ⟨w.heap.size + 3, 1, none⟩ = some (.int .u64 (id : Nat)) ∧ W.cell? ⟨w.heap.size + 3, 3, none⟩ = some (.int .u64 (ea : Nat)) ∧ W.cell? ⟨w.heap.size + 3, 4, none⟩ = some (.string name) ∧ W.cell? ⟨w.heap.size + 3, 6, none⟩ = some (.int .i64 vk) ∧ W.cell? ⟨w.heap.size + 3, 7, none⟩ = some (.int .i64 vn) ∧ W.cell? ⟨w.heap.size + 3, 8, none⟩ = some (.float .f64 vf) ∧ W.cell? ⟨w.heap.size + 3, 9, none⟩ = some (.string vs) ∧ W.cell? ⟨w.heap.size + 3, 10, none⟩ = some (.slice A0 m0 c0) ∧ W.cell? ⟨w.heap.size + 1, 1, none⟩ = some (.int .u64 (at' : Nat))) W) := Lib.hid fun W hW => by
  exact M119
 have HKS2 : Hid (∀ W v, Below u0.heap.size u0 W → (fun W : World => W.cell? ⟨w.heap.size + 3, 1, none⟩ = some (.int .u64 (id : Nat)) ∧ W.cell? ⟨w.heap.size + 3, 3, none⟩ = some (.int .u64 (ea : Nat)) ∧ W.cell? ⟨w.heap.size + 3, 4, none⟩ = some (.string name) ∧ W.cell? ⟨w.heap.size + 3, 6, none⟩ = some (.int .i64 vk) ∧ W.cell? ⟨w.heap.size + 3, 7, none⟩ = some (.int .i64 vn) ∧ W.cell? ⟨w.heap.size + 3, 8, none⟩ = some (.float .f64 vf) ∧ W.cell? ⟨w.heap.size + 3, 9, none⟩ = some (.string vs) ∧ W.cell? ⟨w.heap.size + 3, 10, none⟩ = some (.slice A0 m0 c0) ∧ W.cell? ⟨w.heap.size + 1, 1, none⟩ = some (.int .u64 (at' : Nat))) (W.setCell ⟨w.heap.size, 5, none⟩ v)) := Lib.hid fun W v hW => by
  obtain ⟨-, d2, -, d4⟩ := HX2.out W (HBu1.out W hW)
  have d4' : EBox (W.setCell ⟨w.heap.size, 5, none⟩ v) (w.heap.size + 3) (evCells ⟨7, id, en, ea, name, text, ev⟩ vk vn vf vs A0 m0 c0) := (RowKit.Below.heap_setCell _ _ _ _ (by show w.heap.size + 3 ≠ w.heap.size; omega)).trans d4
  have d2' : BB (W.setCell ⟨w.heap.size, 5, none⟩ v) (w.heap.size + 1) ff at' (some ⟨eb, eo, none⟩) m cap := (RowKit.Below.heap_setCell _ _ _ _ (by show w.heap.size + 1 ≠ w.heap.size; omega)).trans d2
  obtain ⟨g0, g1, g2, g3, g4, g5, g6, g7, g8, g9, g10⟩ := EBox.cells d4'
  exact ⟨g1, g3, g4, g6, g7, g8, g9, g10, (BB.cells d2').2.1⟩
 have HCX : Hid (∀ W, Below u0.heap.size u0 W → W.cell? ⟨w.heap.size, 5, none⟩ = some (.slice Aq L ct) ∧ W.frozen? ⟨w.heap.size, 5, none⟩ = false) := Lib.hid fun W hW => ⟨(HX2.out W (HBu1.out W hW)).1.cells.2.2.2.2.2.1, (HX2.out W (HBu1.out W hW)).1.cells.2.2.2.2.2.2.2 5⟩
 have HIN : Hid (∀ W, Below u0.heap.size u0 W → CIn W (.slice Aq L ct) L 10 xs) := Lib.hid fun W hW => by rw [HLL.out]; exact HCI.out.later (HBW2.out W (HBu1.out W hW))
 have HOUT : Hid (∀ (s1 : ST) (bb : Bool) (cF W7 : World) (Ar : Option Addr) (cr : Nat), (bb = true → (some { s with tasks := s.tasks ++ [⟨id, name, ev, 0, false, at'⟩], next := s.next + 1 } : Option ST) = some s1) → ((some { s with tasks := s.tasks ++ [⟨id, name, ev, 0, false, at'⟩], next := s.next + 1 } : Option ST)).isSome = true → applyM at' al ⟨7, id, en, ea, name, text, ev⟩ s = (if bb = true then (some { s with tasks := s.tasks ++ [⟨id, name, ev, 0, false, at'⟩], next := s.next + 1 } : Option ST) else none) → cF.ownsRow u0.heap.size 133 10 (.slice Ar (L + 1) cr) (L + 1) (xs ++ (#[Value.int .u64 (id : Nat), .string name, .int .i64 vk, .int .i64 vn, .float .f64 vf, .string vs, .slice A0 m0 c0, .int .i64 0, .bool false, .int .u64 (at' : Nat)] : Array Value).toList) → (∀ r, rowOf Ar = some r → u0.heap.size ≤ r) → Below u0.heap.size u0 cF → Below w.heap.size w W7 → (∀ r, r ≠ w.heap.size → r ≠ w.heap.size + 1 + 1 → W7.heap[r]? = cF.heap[r]?) →
   ROut X w f (.slice Bu nu cu) (applyM at' al ⟨7, id, en, ea, name, text, ev⟩ s) (.returned (.tuple #[.agg #[.string f, .slice Bu nu cu, .int .i64 s.closed, .int .u64 ((s.next : Int) + 1), .slice Ak nk ck, .slice Ar (L + 1) cr, .slice Am nm cm], .bool bb])) W7) := Lib.hid fun s1 bb cF W7 Ar cr hs1 hsm hap ho hbr hbF hb7 hm7 => by
  have hs := HS1.out
  have hu := HBu0.out
  have ho7 := own_move (w' := W7) ho (fun r hr => by
   have := hbr r hr
   exact hm7 r (by omega) (by omega))
  refine ⟨hb7, s.closed, s.next + 1, .slice Ak nk ck, .slice Ar (L + 1) cr, .slice Am nm cm, ⟨_, _, _, rfl⟩, ⟨_, _, _, rfl⟩, ⟨_, _, _, rfl⟩, ?_, fun s' hs => ?_⟩
  ·rw [hap]; cases bb <;> rfl
  rw [hap] at hs
  cases bb with
  | false => cases hs
  | true =>
  cases hs
  refine ⟨rfl, rfl, ⟨(HRV.out.leads (veil_below X hb7)).keys, ⟨xs ++ (#[Value.int .u64 (id : Nat), .string name, .int .i64 vk, .int .i64 vn, .float .f64 vf, .string vs, .slice A0 m0 c0, .int .i64 0, .bool false, .int .u64 (at' : Nat)] : Array Value).toList, ?_, ?_⟩, (HRV.out.leads (veil_below X hb7)).timers⟩⟩
  ·have e : (s.tasks ++ [(⟨id, name, ev, 0, false, at'⟩ : TK)]).length = L + 1 := by rw [List.length_append, ← HLL.out]; rfl
   dsimp only
   rw [e]
   refine CIn.of_veil ho7 ?_ (by intro c hc; have := HXB.out c hc; have := HBu0.out; have := HS1.out; omega)
   intro x hx
   rcases List.mem_append.1 hx with q | q
   ·exact HCI.out.2.1 x q
   ·exact HONE.out x q
  ·exact (HST.out.leads (veil_below X hb7)).append (TkC.one (t := ⟨id, name, ev, 0, false, at'⟩) ⟨hid, Int.le_refl 0, (by show (0 : Int) ≤ 2147483647; decide), hbat, HE.out.f.s1⟩ (Rep.leads HREPV.out (veil_below X hb7)) (by rw [veil_size]; exact Nat.le_trans HHI.out hb7.size))
 have HN : Hid (applyM at' al ⟨7, id, en, ea, name, text, ev⟩ s = (some { s with tasks := s.tasks ++ [⟨id, name, ev, 0, false, at'⟩], next := s.next + 1 } : Option ST)) := Lib.hid (by simp [applyM, H1.out])
 refine wp_region_noPanic ?_
 refine wp_region_held_drew (S := (fun W : World => W.cell? ⟨w.heap.size + 3, 1, none⟩ = some (.int .u64 (id : Nat)) ∧ W.cell? ⟨w.heap.size + 3, 3, none⟩ = some (.int .u64 (ea : Nat)) ∧ W.cell? ⟨w.heap.size + 3, 4, none⟩ = some (.string name) ∧ W.cell? ⟨w.heap.size + 3, 6, none⟩ = some (.int .i64 vk) ∧ W.cell? ⟨w.heap.size + 3, 7, none⟩ = some (.int .i64 vn) ∧ W.cell? ⟨w.heap.size + 3, 8, none⟩ = some (.float .f64 vf) ∧ W.cell? ⟨w.heap.size + 3, 9, none⟩ = some (.string vs) ∧ W.cell? ⟨w.heap.size + 3, 10, none⟩ = some (.slice A0 m0 c0) ∧ W.cell? ⟨w.heap.size + 1, 1, none⟩ = some (.int .u64 (at' : Nat)))) (by kernel_rfl) ?_ (fun hHeld => ?_)
 ·rw [← hu0]; exact HKS.out _ (Below.refl _ _)
 rw [← hu0] at hHeld
 rw [← hu0]
 replace hu0 := Lib.hid hu0
 refine tk 1 rfl ?_
 try simp only [ap]
 refine tk 4 rfl ?_
 try simp only [ap]
 refine tk 5 rfl ?_
 try simp only [ap]
 refine tk 6 rfl ?_
 try simp only [ap]
 refine tk 7 rfl ?_
 try simp only [ap]
 refine tk 8 rfl ?_
 try simp only [ap]
 refine tk 9 rfl ?_
 try simp only [ap]
 refine tk 10 rfl ?_
 try simp only [ap]
 refine tk 11 rfl ?_
 try simp only [ap]
 refine tk 12 rfl ?_
 try simp only [ap]
 refine wpAnyH_ready (rs := [0, 2, 13]) (by kernel_rfl) (by simp) ?_
 refine cons_drop rfl (fun K hK => ?_) (cons_drop rfl (fun K hK => ?_) (cons_drop rfl (fun K hK => ?_) AllReadyH.nil))
 ·go_simp
  obtain ⟨zw0, hc0⟩ : ∃ u, u = u0.alloc (.cells #[] 133) := ⟨_, rfl⟩
  open Q338 in exact M334
 ·obtain ⟨cx, -⟩ := HCX.out u0 HBu.out
  go_simp
  refine hK.out _ _ (HKS.out _ HBu.out) (fun hHL => ?_)
  clear hK K hHeld
  try simp only [ap]
  clear cx
  refine rd2 0 13 rfl rfl (fun K hK => ?_) fun K hK => ?_
  ·go_simp
   obtain ⟨zw0, hc0⟩ : ∃ u, u = u0.alloc (.cells #[] 133) := ⟨_, rfl⟩
   open Q339 in exact M334
  ·go_simp
   obtain ⟨zw1, hc1⟩ : ∃ u, u = u0.alloc (.cells (#[Value.int .u64 (id : Nat), .string name, .int .i64 vk, .int .i64 vn, .float .f64 vf, .string vs, .slice A0 m0 c0, .int .i64 0, .bool false, .int .u64 (at' : Nat)] : Array Value) 133) := ⟨_, rfl⟩
   open Q283 in exact M280
 ·go_simp
  obtain ⟨zw1, hc1⟩ : ∃ u, u = u0.alloc (.cells (#[Value.int .u64 (id : Nat), .string name, .int .i64 vk, .int .i64 vn, .float .f64 vf, .string vs, .slice A0 m0 c0, .int .i64 0, .bool false, .int .u64 (at' : Nat)] : Array Value) 133) := ⟨_, rfl⟩
  open Q284 in exact M280
end Hi
end Go.Proofs.YtfmnacebgplpcaaGreat
namespace Go.Proofs.YtfmnacebgplpcaaGreat
namespace Hi
open _root_.Go.Proofs.YtfmnacebgplpcaaGreat.Nm (ret_int ret_bool)
open Vt (VT Rep below_drew rsame_any same_refl)
open Ev (EV FieldsOk evCells vCells)
open Cm (rowOf EvsIn evsSame evSame evsSame_refl)
open Cn (BT BtsIn rsameb_len)
variable {v w w' : World}

theorem evsSame_len {a b : List EV} (h : evsSame a b = true) : b.length = a.length := by
 unfold evsSame at h
 simp only [Bool.and_eq_true, beq_iff_eq] at h
 exact h.1.symm
def BSame (b b' : BT) : Prop := b.flow = b'.flow ∧ b.at' = b'.at' ∧ evsSame b.es b'.es = true
def TSame (t t' : TK) : Prop := t.id = t'.id ∧ t.name = t'.name ∧ t.n = t'.n ∧ t.fl = t'.fl ∧ t.at' = t'.at' ∧ t.v.same t'.v = true
structure HSame (h h' : HM) : Prop where
 flow : h.flow = h'.flow
 closed : h.s.closed = h'.s.closed
 next : h.s.next = h'.s.next
 keys : h.s.keys = h'.s.keys
 timers : h.s.timers = h'.s.timers
 blen : h'.bs.length = h.bs.length
 bs : ∀ i (h1 : i < h.bs.length) (h2 : i < h'.bs.length), BSame h.bs[i] h'.bs[i]
 tlen : h'.s.tasks.length = h.s.tasks.length
 tasks : ∀ i (h1 : i < h.s.tasks.length) (h2 : i < h'.s.tasks.length), TSame h.s.tasks[i] h'.s.tasks[i]
set_option maxRecDepth 100000 in
set_option maxHeartbeats 2000000 in
theorem rsamebs_same (bl bl' : List BT) (hll : bl'.length = bl.length) (hs : ∀ i (h : i < bl.length) (h' : i < bl'.length), BSame bl[i] bl'[i]) (A A' : Option Addr) (cap cap' : Nat) (w : World) (h : BtsIn w A cap bl) (h' : BtsIn w A' cap' bl') :
  Calls Tryz.prog 49 #[.slice A bl.length cap, .slice A' bl'.length cap'] w fun r w' => r = .returned (.bool true) ∧ Below w.heap.size w w' := by
 have hl := h.le
 have hc := h.cap_le
 have hl' := h'.le
 have hc' := h'.cap_le
 simp only [maxLen] at hc hc'
 have HK := Lib.hid h; have HK' := Lib.hid h'; have HLL := Lib.hid hll; have HS := Lib.hid hs; clear h h' hs
 rw [hll] at hl' ⊢
 clear hll
 obtain ⟨m, hm⟩ : ∃ m, m = bl.length := ⟨_, rfl⟩
 have HM : Hid (bl.length = m) := Lib.hid hm.symm
 rw [← hm] at hl hl' ⊢
 clear hm
 go_enter Tryz.func49, Tryz.ntmps49
 go_wp2_with fail
 go_loopw [4, 5] (fun r i wr => ∃ (j : Nat), j ≤ m ∧ i = .int .i64 j ∧ r = .bool false ∧ Below w.heap.size w wr) (fun _ i _ => m - (intOf i).toNat)
 case atStart => exact ⟨0, by omega, rfl, rfl, Below.refl _ _⟩
 case round =>
  obtain ⟨j, hj, rfl, rfl, hb⟩ := hrel
  have HB := Lib.hid hb; clear hb
  by_cases hlt : j < m
  ·obtain ⟨b, off, rfl, hblt, h3⟩ := (HK.out.later HB.out).at_ (by have := HM.out; omega)
   obtain ⟨b', off', rfl, hblt', h3'⟩ := (HK'.out.later HB.out).at_ (by have := HM.out; have := HLL.out; omega)
   obtain ⟨A1, c1, hfl, hat, hes, d0, d1, d2⟩ := h3 j (by have := HM.out; omega)
   obtain ⟨A2, c2, hfl', hat', hes', g0, g1, g2⟩ := h3' j (by have := HM.out; have := HLL.out; omega)
   have hes2 := hes.later (below_drew (Below.refl wr.heap.size wr))
   have hes2' := hes'.later (below_drew (Below.refl wr.heap.size wr))
   obtain ⟨s1, s2, s3⟩ := HS.out j (by have := HM.out; omega) (by have := HM.out; have := HLL.out; omega)
   have HC := Lib.hid ((rsameb_len _ _ (evsSame_len s3) (bl[j]'(by have := HM.out; omega)).flow (bl[j]'(by have := HM.out; omega)).at' A1 A2 c1 c2 wr.drew hes2 hes2').mono fun r w' (k : _ ∧ _) => (⟨by rw [k.1, s3], k.2⟩ : r = .returned (.bool true) ∧ Below wr.drew.heap.size wr.drew w'))
   rw [← s1] at g0
   rw [← s2] at g1
   rw [evsSame_len s3] at HC g2
   clear s1 s2 s3
   exact M57
  ·exact M97
namespace Q209
theorem Y208 {p : Prop} (h : p := by
 have HS := Lib.hid fun W (hW : Below wr.heap.size wr W) => rsame_any tv tv' W lo hi lo' hi' _ _ (hr.later (hW.mono hz)) (Nat.le_trans hz hW.size) (hr'.later (hW.mono hz')) (Nat.le_trans hz' hW.size)
 unfold vCells at HS
 clear hr hr' hq hq'
 go_upto_region 5 with fail
 go_wp2_with fail
 refine (HS.out _ ?_).mono ?_
 ·exact ((Below.refl _ _).alloc (Nat.le_refl _) _).alloc (by simp) _
 rintro e w1 ⟨rfl, hb1⟩
 have HB1 : Hid (Below w.heap.size w w1) := Lib.hid (HB.out.trans ((((Below.refl wr.heap.size wr).alloc (Nat.le_refl _) _).alloc (by simp) _).trans (hb1.mono (by simp; omega)) |>.mono HB.out.size))
 rw [HE6.out]
 clear hb1 HS d0 d1 d2 d3 d4 d5 d6 d7 d8 d9 e0 e1 e2 e3 e4 e5 e6 e7 e8 e9
 exact M91) : p := h
end Q209
set_option maxRecDepth 100000 in
set_option maxHeartbeats 2000000 in
theorem sametasks_same (l l' : List TK) (hll : l'.length = l.length) (hs : ∀ i (h : i < l.length) (h' : i < l'.length), TSame l[i] l'[i]) (A A' : Option Addr) (cap cap' : Nat) (w : World) (h : TkIn w A cap l) (h' : TkIn w A' cap' l') :
  Calls Tryz.prog 51 #[.slice A l.length cap, .slice A' l'.length cap'] w fun e w' => e = .returned (.int .i64 1) ∧ Below w.heap.size w w' := by
 have hle := h.1
 have hcm := h.2.1
 have hle' := h'.1
 have hcm' := h'.2.1
 simp only [maxLen] at hcm hcm'
 have HK := Lib.hid h; have HK' := Lib.hid h'; have HLL := Lib.hid hll; have HSM := Lib.hid hs
 clear h h' hs
 rw [hll] at hle' ⊢
 clear hll
 obtain ⟨m, hm⟩ : ∃ m, m = l.length := ⟨_, rfl⟩
 have HM : Hid (l.length = m) := Lib.hid hm.symm
 rw [← hm] at hle hle' ⊢
 clear hm
 go_enter Tryz.func51, Tryz.ntmps51
 go_wp2_with fail
 go_loopw [4, 15] (fun r i wr => ∃ (j : Nat), j ≤ m ∧ i = .int .i64 j ∧ r = .int .i64 0 ∧ Below w.heap.size w wr) (fun _ i _ => m - (intOf i).toNat)
 case atStart => exact ⟨0, by omega, rfl, rfl, Below.refl _ _⟩
 case round =>
  obtain ⟨j, hj, rfl, rfl, hb⟩ := hrel
  have HB := Lib.hid hb; clear hb
  by_cases hlt : j < m
  ·obtain ⟨b, off, rfl, hblt, h3⟩ := (HK.out.later HB.out).2.2 (by have := HM.out; omega)
   obtain ⟨b', off', rfl, hblt', h3'⟩ := (HK'.out.later HB.out).2.2 (by have := HM.out; have := HLL.out; omega)
   obtain ⟨lo, hi, k, n, f, s, A1, m1, c1, -, hr, hz, hq⟩ := h3 j (by have := HM.out; omega)
   obtain ⟨lo', hi', k', n', f', s', A1', m1', c1', -, hr', hz', hq'⟩ := h3' j (by have := HM.out; have := HLL.out; omega)
   obtain ⟨t, ht⟩ : ∃ t, t = l[j]'(by have := HM.out; omega) := ⟨_, rfl⟩
   obtain ⟨t', ht'⟩ : ∃ t', t' = l'[j]'(by have := HM.out; have := HLL.out; omega) := ⟨_, rfl⟩
   have hsm := HSM.out j (by have := HM.out; omega) (by have := HM.out; have := HLL.out; omega)
   rw [← ht] at hr hq hsm
   rw [← ht'] at hr' hq' hsm
   clear ht ht' h3 h3'
   obtain ⟨tid, tname, tv, tn, tfl, tat⟩ := t
   obtain ⟨tid', tname', tv', tn', tfl', tat'⟩ := t'
   obtain ⟨e1, e2, e3, e4, e5, e6⟩ := hsm
   dsimp only at e1 e2 e3 e4 e5 e6
   subst e1; subst e2; subst e3; subst e4; subst e5
   have HE6 := Lib.hid e6
   clear e6
   open Q209 in exact M208
  ·exact M97
end Hi
end Go.Proofs.YtfmnacebgplpcaaGreat
namespace Go.Proofs.YtfmnacebgplpcaaGreat
namespace Hi
open _root_.Go.Proofs.YtfmnacebgplpcaaGreat.Nm (ret_int ret_bool)
open Vt (VT Rep below_drew)
open Ev (EV FieldsOk evCells vCells take_drop tk ap rd1 rd2 cons_drop)
open Cm (rowOf EvsIn)
open Cn (BT BB BtsIn)
variable {X X' Y Y' : Nat → Prop} {u v w w' V V' : World} {hb bt bm bk n cap : Nat} {A : Option Addr} {h : HM}

theorem all_same {α : Type} {R : α → α → Prop} {l l' : List α} (hl : l'.length = l.length) (h : ∀ i (h1 : i < l.length) (h3 : i < l'.length), R l[i] l'[i]) : ∀ (i : Nat) a b, l[i]? = some a → l'[i]? = some b → R a b := fun i a b ha hb => by
 obtain ⟨h1, rfl⟩ := List.getElem?_eq_some_iff.1 ha
 obtain ⟨h3, rfl⟩ := List.getElem?_eq_some_iff.1 hb
 exact h i h1 h3
theorem HSame.at {h h' : HM} (k : HSame h h') : h.at' = h'.at' := by
 unfold HM.at'
 rw [List.getLast?_eq_getElem?, List.getLast?_eq_getElem?, k.blen]
 by_cases hp : h.bs.length - 1 < h.bs.length
 ·rw [List.getElem?_eq_getElem hp, List.getElem?_eq_getElem (by rw [k.blen]; exact hp)]
  exact (k.bs _ hp (by rw [k.blen]; exact hp)).2.1
 ·rw [List.getElem?_eq_none (by omega), List.getElem?_eq_none (by rw [k.blen]; omega)]
namespace Q235
theorem Y233 {p : Prop} (h : p := by
 (with_reducible refine (show Calls _ _ _ _ _ from by have q := sametasks_same lt h2.s.tasks (HSTL.out.trans HNT.out.symm) (fun i h1 h3 => HSTS.out i _ _ (List.getElem?_eq_getElem h1) (List.getElem?_eq_getElem h3)) At2 Aq ct2 ct c10 HTT2.out (HTK.out _ HB10.out); rw [HSTL.out, HNT.out] at q; exact q).mono ?_)
 exact M61) : p := h
end Q235
namespace Q268
theorem Y266 {p : Prop} (h : p := by
 (with_reducible refine (show Calls _ _ _ _ _ from by have q := rsamebs_same h.bs h2.bs (HSBL.out.trans HLL.out.symm) (fun i h1 h3 => HSBS.out i _ _ (List.getElem?_eq_getElem h1) (List.getElem?_eq_getElem h3)) Ab Bu cb cu c8 HBN.out (HBU.out _ HB8.out); rw [HSBL.out, HLL.out] at q; exact q).mono ?_)
 open Q235 in exact M233) : p := h
end Q268
namespace Q178
theorem Y176 {p : Prop} (h : p := by
 open Q268 in exact M266) : p := h
end Q178
namespace Q358
theorem Y357 {p : Prop} (h : p := by
 go_loopw [5, 11] (fun v i wr => ∃ j : Nat, j ≤ m ∧ i = .int .i64 j ∧ wr.ownsRow W0.heap.size 90 2 v j (xs.take (j * 2)) ∧ Below W0.heap.size W0 wr) (fun _ i _ => m - (intOf i).toNat)
 case atStart => exact ⟨0, by omega, rfl, by rw [Nat.zero_mul, List.take_zero]; exact ⟨rfl, .inl ⟨rfl, rfl⟩⟩, Below.refl _ _⟩
 case round =>
  obtain ⟨j, hj, rfl, hown, hb⟩ := hrel
  have HB := Lib.hid hb; have HO := Lib.hid hown
  clear hb hown
  by_cases hlt : j < m
  ·exact M26
  ·have hj' : j = m := by omega
   subst hj'
   open Q178 in exact M176) : p := h
end Q358
namespace Q310
theorem Y308 {p : Prop} (h : p := by
 have HBU : Hid (∀ W, Below W0.heap.size W0 W → BtsIn W Bu cu h2.bs) := Lib.hid fun W hW => hbu.later (HBW.out W hW)
 have HTK : Hid (∀ W, Below W0.heap.size W0 W → TkIn W Aq ct h2.s.tasks) := Lib.hid fun W hW => htk.later (HBW.out W hW)
 have HRD : Hid (∀ W, Below W0.heap.size W0 W → 0 < h.s.timers.length → ∃ b off, Am = some ⟨b, off, none⟩ ∧ b < W.heap.size ∧ ∀ p x, xs[p]? = some x → W.cell? ⟨b, off + p, none⟩ = some x) := Lib.hid fun W hW hp => by
  exact M115
 have HTM := Lib.hid htm; have HONE0 := Lib.hid h1
 have HZ0 := Lib.hid hz0
 have HSBL : Hid (h2.bs.length = h.bs.length) := Lib.hid hss.blen
 have HSTL : Hid (h2.s.tasks.length = h.s.tasks.length) := Lib.hid hss.tlen
 have HSBS : Hid (∀ (i : Nat) a b, h.bs[i]? = some a → h2.bs[i]? = some b → BSame a b) := Lib.hid (all_same hss.blen hss.bs)
 have HSTS : Hid (∀ (i : Nat) a b, h.s.tasks[i]? = some a → h2.s.tasks[i]? = some b → TSame a b) := Lib.hid (all_same hss.tlen hss.tasks)
 clear H hr hbu htk htm hss HSB hat' hx0 hb0 hz0 hS hST hid hrd h1
 open Q358 in exact M357) : p := h
end Q310
namespace Q217
theorem Y216 {p : Prop} (h : p := by
 have HC4 : Hid (∀ W, Below W0.heap.size W0 W → Calls Tryz.prog 45 #[.agg (rhC h.flow (.slice Bu h.bs.length cu) h.s.closed h.s.next (.slice Ak nk ck) (.slice Aq h.s.tasks.length ct) (.slice Am h.s.timers.length cm))] W fun r w' => r = .returned (.int .u64 (h.at' : Nat)) ∧ Below W.heap.size W w') := Lib.hid fun W hW => by rw [hat']; exact rat_any h2 h.flow _ _ _ _ _ _ W (hr.later (HBW.out W hW)).bs
 open Q310 in exact M308) : p := h
end Q217
set_option maxRecDepth 100000 in
set_option maxHeartbeats 4000000 in
theorem lsame_same (H : HAt Y w hb bt bm bk n A cap h) (h2 : HM) (hss : HSame h h2) (ub uk ut um : Value) (hr : RH w h2 ub uk ut um) (htot : tot h.bs ≤ 1180000000000) (hL : h.bs.length ≤ 1000000) (hS : BsOk h.bs) (hST : ∀ t ∈ h.s.tasks, t.v.Slim 900) :
  Calls Tryz.prog 22 #[.pointer (some ⟨hb, 0, none⟩), .agg (rhC h2.flow ub h2.s.closed h2.s.next uk ut um)] w fun r w' => r = .returned (.int .i64 1) ∧ Below w.heap.size w w' := by
 rw [← hss.flow, ← hss.closed, ← hss.next]
 obtain ⟨Bu, cu, rfl, hbu⟩ := hr.bs.open
 obtain ⟨Aq, ct, rfl, htk⟩ := hr.tasks.open
 rw [hss.blen, hss.tlen]
 obtain ⟨Ak, nk, ck, rfl⟩ : ∃ A n c, uk = .slice A n c := by obtain ⟨xs, ⟨-, -, A, c, e, -⟩, -⟩ := hr.keys; exact ⟨_, _, _, e⟩
 obtain ⟨xs, hcin, htm⟩ := hr.timers
 rw [← hss.timers] at hcin htm
 rw [hss.blen, hss.tlen] at hr
 have hat' := HSame.at hss
 have HSB := Lib.hid hss
 open Q217 in exact M216
end Hi
end Go.Proofs.YtfmnacebgplpcaaGreat
