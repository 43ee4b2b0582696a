/- Cancel. -/
import Derived.Test.YtkjlfoihojfnbaaDoorWhW
import Derived.Test.YtkjlfoihojfnbaaDoorWhH
namespace Go.Proofs.YtkjlfoihojfnbaaDoor
open Go.RowKit
set_option linter.unusedVariables false
set_option linter.unusedSimpArgs false
namespace Wh
open Lv (slotOf slotOf_lt)
open Lo (IRow KB Lies below_drew wo wo_mem wo_not updL ChgOut takeA consA St.chg Own bef)
variable {base b xb now t : Nat} {w w' w1 w2 : World} {T M : List (Nat × Nat)} {x y : Nat × Nat} {v : Value} {V : WV} {L : Nat → Nat → List (Nat × Nat)} {D F D' F' : List (Nat × Nat)} {S : Nat → Prop}
theorem WW.setDF (h : WW base w b now V L D F M) {vd' vf' : Value} (kb : KB w w2 (fun g => V.vd.ownBlock = some g ∨ V.vf.ownBlock = some g)) (rowD : IRow 34 w2 base vd' D') (rowF : IRow 34 w2 base vf' F')
    (hod : ∀ g, vd'.ownBlock = some g → V.vd.ownBlock = some g) (hof : ∀ g, vf'.ownBlock = some g → V.vf.ownBlock = some g) :
    WW base ((w2.setCell ⟨b, 6, none⟩ vd').setCell ⟨b, 7, none⟩ vf') b now { V with vd := vd', vf := vf' } L D' F' M ∧ Chg w ((w2.setCell ⟨b, 6, none⟩ vd').setCell ⟨b, 7, none⟩ vf') (Any b V) (Any b { V with vd := vd', vf := vf' }) := by
  have kbs : KB w2 ((w2.setCell ⟨b, 6, none⟩ vd').setCell ⟨b, 7, none⟩ vf') (fun g => g = b) := (kb_set w2 b 6 vd').trans (kb_set _ b 7 vf') (fun j _ e => e)
  have kb2 : KB w ((w2.setCell ⟨b, 6, none⟩ vd').setCell ⟨b, 7, none⟩ vf') (fun g => g = b ∨ V.vd.ownBlock = some g ∨ V.vf.ownBlock = some g) := (KB.trans (⟨kb.os, kb.tape, kb.output, kb.size, fun j hj hn => kb.block j hj (fun e => hn (.inr e))⟩ : KB w w2 (fun g => g = b ∨ V.vd.ownBlock = some g ∨ V.vf.ownBlock = some g)) kbs (fun j _ e => .inl e))
  have hblt : b < w.heap.size := h.lt b ⟨6, by omega, rfl⟩
  have hb1 : w2.heap[b]? = some (.cells (whCells now V) 88 (0, 0)) := (kb.block b hblt (fun e => by
    rcases e with e | e
    · exact h.apart 4 6 (by omega) (by omega) (by omega) b e rfl
    · exact h.apart 5 6 (by omega) (by omega) (by omega) b e rfl)).trans h.blk
  have hout : ∀ p, p < 8 → p ≠ 4 → p ≠ 5 → p ≠ 6 → ∀ g, Part b V p g → ¬ (g = b ∨ V.vd.ownBlock = some g ∨ V.vf.ownBlock = some g) := fun p hp h4 h5 h6 g hg e => by
    rcases e with e | e | e
    · exact h.apart p 6 hp (by omega) h6 g hg e
    · exact h.apart p 4 hp (by omega) h4 g hg e
    · exact h.apart p 5 hp (by omega) h5 g hg e
  have hs : ∀ p, p < 8 → ∀ g, Part b { V with vd := vd', vf := vf' } p g → Part b V p g ∨ (p = 4 ∧ w.heap.size ≤ g) := by
    intro p hp g hg
    rcases (by omega : p < 4 ∨ p = 4 ∨ p = 5 ∨ p = 6 ∨ p = 7) with e | rfl | rfl | rfl | rfl
    · rw [partL _ _ p g e] at hg ⊢; exact .inl hg
    · exact .inl (hod g hg)
    · exact .inl (hof g hg)
    · exact .inl hg
    · exact .inl hg
  refine ⟨⟨blk_set (blk_set hb1 rfl) (by simp [whCells]), fun j hj => (h.lev j hj).keep kb2 fun g hg => hout j (by omega) (by omega) (by omega) (by omega) g (by rw [partL b V j g hj]; exact hg), rowD.keepKB kbs fun g hg e => h.apart 4 6 (by omega) (by omega) (by omega) g (hod g hg) e, rowF.keepKB kbs fun g hg e => h.apart 5 6 (by omega) (by omega) (by omega) g (hof g hg) e,
    h.map.keep (kb2.block _ (h.lt _ ⟨7, by omega, rfl⟩) (hout 7 (by omega) (by omega) (by omega) (by omega) _ rfl)), apart_of h.apart h.lt hs, h.hb, h.hm, h.hl⟩,
    ⟨⟨kb2.os, kb2.tape, kb2.output, kb2.size, fun j hj hn => kb2.block j hj (fun e => hn ?_)⟩, grow_of hs⟩⟩
  rcases e with e | e | e
  · exact ⟨6, by omega, e⟩
  · exact ⟨4, by omega, e⟩
  · exact ⟨5, by omega, e⟩
/-- Remove of a level that lies in a wheel. -/
def Removed (base : Nat) (w w' : World) (b now : Nat) (V : WV) (L : Nat → Nat → List (Nat × Nat)) (D F M : List (Nat × Nat)) (i : Nat) (x : Nat × Nat) : Prop :=
  ∃ V' L', WW base w' b now V' L' D F M ∧ Chg w w' (Any b V) (Any b V') ∧ V'.bl = V.bl ∧ V'.vd = V.vd ∧ V'.vf = V.vf ∧ (∀ j, j ≠ i → L' j = L j) ∧ ∀ s, s < 64 → L' i s = wo (L i s) x
theorem lvl_remove (h : WW base w b now V L D F M) {i : Nat} (hi : i < 4) (x : Nat × Nat) (ha : x.2 < 18446744073709551616) (hl : ∀ s, s < 64 → (L i s).length ≤ 1000) (hn : ∀ s, s < 64 → (L i s).Nodup) (hsl : ∀ s, s < 64 → x ∈ L i s → slotOf i x.2 = s) :
    Calls Tryd.prog 14 #[.pointer (some ⟨V.bl i, 0, none⟩), .agg #[.int .u64 (x.1 : Nat), .int .u64 (x.2 : Nat)]] w fun e w' => (∃ r, e = .returned (.bool r)) ∧ Removed base w w' b now V L D F M i x := by
  have st := h.lev i hi
  have hs := slotOf_lt i x.2
  refine (Lo.remove_any x (by omega) ha base (V.m i) (L i (slotOf i x.2)) (hl _ hs) st.mlt (st.rows _ hs) (st.nob _ hs) st.lv).mono fun e w' hp => ?_
  rcases hp with ⟨he, hx, hb⟩ | ⟨he, k, hk, hx, hc⟩
  · refine ⟨⟨_, he⟩, V, L, h.later hb, Chg.of_below _ hb, rfl, rfl, rfl, fun _ _ => rfl, fun s hs2 => ?_⟩
    refine (wo_not fun e => ?_).symm
    have := hsl s hs2 e
    exact hx (this ▸ e)
  · rw [← wo_cut (hn _ hs) hk hx] at hc
    obtain ⟨f', m', st', kb, hown⟩ := St.chg st hs hc
    obtain ⟨V', g1, g2, g3, g4, g5⟩ := h.level hi st' kb hown
    refine ⟨⟨_, he⟩, V', _, g1, g2, g3, g4, g5, fun j hj => updLL_other _ hj, fun s hs2 => ?_⟩
    rw [updLL_same]
    by_cases e : s = slotOf i x.2
    · rw [e, updL_same]
    · rw [updL_other _ e]
      exact (wo_not fun e2 => e (hsl s hs2 e2).symm).symm
/-- Some levels have let it go. -/
structure LessL (base : Nat) (w w' : World) (b now : Nat) (V : WV) (L : Nat → Nat → List (Nat × Nat)) (D F M : List (Nat × Nat)) (i : Nat) (x : Nat × Nat) (V' : WV) (L' : Nat → Nat → List (Nat × Nat)) : Prop where
  ww : WW base w' b now V' L' D F M
  chg : Chg w w' (Any b V) (Any b V')
  bl : V'.bl = V.bl
  vd : V'.vd = V.vd
  vf : V'.vf = V.vf
  lo : ∀ j s, j < i → s < 64 → L' j s = wo (L j s) x
  hi : ∀ j, i ≤ j → L' j = L j
theorem LessL.start (h : WW base w b now V L D F M) (x : Nat × Nat) : LessL base w w b now V L D F M 0 x V L := ⟨h, Chg.refl _ _, rfl, rfl, rfl, fun j s hj => by omega, fun j _ => rfl⟩
theorem LessL.step {i : Nat} {V' : WV} {L' : Nat → Nat → List (Nat × Nat)} (h : LessL base w w1 b now V L D F M i x V' L') (hr : Removed base w1 w2 b now V' L' D F M i x) : ∃ V2 L2, LessL base w w2 b now V L D F M (i + 1) x V2 L2 := by
  obtain ⟨V2, L2, g1, g2, g3, g4, g5, g6, g7⟩ := hr
  refine ⟨V2, L2, g1, h.chg.trans g2, g3.trans h.bl, g4.trans h.vd, g5.trans h.vf, fun j s hj hs => ?_, fun j hj => ?_⟩
  · by_cases e : j = i
    · subst e; rw [g7 s hs, h.hi j (Nat.le_refl _)]
    · rw [g6 j e, h.lo j s (by omega) hs]
  · rw [g6 j (by omega), h.hi j (by omega)]
/-- Without one. -/
theorem Pl.without {L' : Nat → Nat → List (Nat × Nat)} (h : Pl now L D F (fun y => y ∈ T)) (x : Nat × Nat) (hL : ∀ j s, j < 4 → s < 64 → L' j s = wo (L j s) x) : Pl now L' (wo D x) (wo F x) (fun y => y ∈ wo T x) := by
  have hm : ∀ (l : List (Nat × Nat)) y, y ∈ wo l x ↔ y ∈ l ∧ y ≠ x := fun l y => by unfold wo; rw [List.mem_filter, decide_eq_true_iff]
  refine (h.sub (D' := wo D x) (F' := wo F x) (L' := L') (fun y hy => wo_mem hy) (fun y hy => wo_mem hy) (fun i s hi hs y hy => wo_mem (by rw [← hL i s hi hs]; exact hy)) (h.dn.sublist List.filter_sublist) (h.fn.sublist List.filter_sublist) (fun i s hi hs => by rw [hL i s hi hs]; exact (h.ln i s hi hs).sublist List.filter_sublist)).iff fun y => ?_
  rw [hm T y, hm D y, hm F y, h.mem y]
  constructor
  · rintro (⟨a, c⟩ | ⟨a, c⟩ | ⟨i, s, hi, hs, hy⟩)
    · exact ⟨.inl a, c⟩
    · exact ⟨.inr (.inl a), c⟩
    · rw [hL i s hi hs, hm] at hy
      exact ⟨.inr (.inr ⟨i, s, hi, hs, hy.1⟩), hy.2⟩
  · rintro ⟨a | a | ⟨i, s, hi, hs, hy⟩, c⟩
    · exact .inl ⟨a, c⟩
    · exact .inr (.inl ⟨a, c⟩)
    · exact .inr (.inr ⟨i, s, hi, hs, by rw [hL i s hi hs, hm]; exact ⟨hy, c⟩⟩)
theorem ids_inj (h : (T.map Prod.fst).Nodup) (hx : x ∈ T) (hy : y ∈ T) (e : x.1 = y.1) : x = y := by
  obtain ⟨i, hi, rfl⟩ := List.getElem_of_mem hx
  obtain ⟨j, hj, rfl⟩ := List.getElem_of_mem hy
  have hp := List.pairwise_iff_getElem.1 (List.pairwise_map.1 h)
  rcases Nat.lt_trichotomy i j with q | q | q
  · exact absurd e (hp i j hi hj q)
  · subst q; rfl
  · exact absurd e.symm (hp j i hj hi q)
theorem noId_wo (h : (T.map Prod.fst).Nodup) (hx : x ∈ T) : noId T x.1 = wo T x := by
  unfold noId wo
  refine List.filter_congr fun y hy => ?_
  by_cases e : y = x
  · subst e; simp
  · have e2 : ¬ (y.1 = x.1) := fun e2 => e (ids_inj h hy hx e2)
    simp [e, e2]
theorem cancel_out (id : Nat) (h : Whl base w b now T S) (hid : id < 18446744073709551616) (hh : hasId T id = false) :
    Calls Tryd.prog 33 #[.pointer (some ⟨b, 0, none⟩), .int .u64 (id : Nat)] w fun e w' => e = .returned (.int .i64 6) ∧ Below w.heap.size w w' := by
  have HH := Lib.hid (has_any h id hid)
  rw [hh] at HH
  clear hh
  go_enter Tryd.func33, Tryd.ntmps33
  go_wp2_with fail
  refine HH.out.mono ?_
  rintro e w1 ⟨rfl, hb⟩
  have HB := Lib.hid hb
  clear hb
  go_wp2_with fail
  go_ret
  exact ⟨rfl, HB.out⟩
/-- What the walk ends in. -/
theorem cancel_fin {V' : WV} {L' : Nat → Nat → List (Nat × Nat)} {vd' vf' : Value} {wd w4 : World} (h : Whl base w b now T S) (hx : x ∈ T) (hV : ∀ g, Any b V g → S g) (h2 : Pl now L D F (fun y => y ∈ T)) (hc : Chg w wd (Any b V) (Any b V)) (hl : LessL base wd w1 b now V L D F (noId T x.1) 4 x V' L')
    (kb : KB w1 w4 (fun g => V'.vd.ownBlock = some g ∨ V'.vf.ownBlock = some g)) (rowD : IRow 34 w4 base vd' (wo D x)) (rowF : IRow 34 w4 base vf' (wo F x)) (hod : vd'.ownBlock = V'.vd.ownBlock) (hof : vf'.ownBlock = V'.vf.ownBlock) :
    Whl base ((w4.setCell ⟨b, 6, none⟩ vd').setCell ⟨b, 7, none⟩ vf') b now (wo T x) (grown S w) ∧ KB w ((w4.setCell ⟨b, 6, none⟩ vd').setCell ⟨b, 7, none⟩ vf') S := by
  obtain ⟨g1, g2⟩ := hl.ww.setDF kb rowD rowF (fun g e => hod ▸ e) (fun g e => hof ▸ e)
  refine h.changed (M' := noId T x.1) ⟨V, _, L', wo D x, wo F x, hV, g1, h2.without x (fun j s hj hs => hl.lo j s hj hs), (hc.trans hl.chg).trans g2⟩ (fun y => by rw [noId_wo h.ids hx]) ?_ ?_ (fun y hy => h.sm y (wo_mem hy)) h.nowm ?_
  · exact (nodup_of_ids h.ids).sublist List.filter_sublist
  · exact h.ids.sublist (List.filter_sublist.map _)
  · exact h.sorted.sublist List.filter_sublist
set_option maxRecDepth 100000 in
set_option maxHeartbeats 8000000 in
theorem cancel_ok (x : Nat × Nat) (h : Whl base w b now T S) (hx : x ∈ T) (hbase : base ≤ w.heap.size) (hT : T.length ≤ 1000) :
    Calls Tryd.prog 33 #[.pointer (some ⟨b, 0, none⟩), .int .u64 (x.1 : Nat)] w fun e w' => e = .returned (.int .i64 0) ∧ Whl base w' b now (wo T x) (grown S w) ∧ KB w w' S := by
  have hsm := h.sm x hx
  have HH := Lib.hid (has_any h x.1 hsm.1)
  rw [(hasId_iff T x.1).2 ⟨x, hx, rfl⟩] at HH
  have HWL := Lib.hid h
  have HXT := Lib.hid hx
  obtain ⟨V, L, D, F, h1, h2, h3⟩ := h.ex
  have HW := Lib.hid h1
  have HP := Lib.hid h2
  have HV := Lib.hid h3
  obtain ⟨bd, bf, bl⟩ := h2.bounds (M := T) (fun y hy => hy)
  have HBL := Lib.hid bl
  have HSL : Hid (∀ i s, i < 4 → s < 64 → x ∈ L i s → slotOf i x.2 = s) := Lib.hid fun i s hi hs e => (h2.l i s hi hs x e).2.2
  have ha : x.2 < 18446744073709551616 := by omega
  have HID := Lib.hid h.ids
  clear h h1 h2 h3 bl hsm
  go_enter Tryd.func33, Tryd.ntmps33
  go_wp2_with fail
  refine HH.out.mono ?_
  rintro e w1 ⟨rfl, hb1⟩
  have hw1 := HW.out.later hb1
  obtain ⟨c0, cm, -, -, -, fz⟩ := hw1.cells
  have hlk := hw1.map.at x hx
  unfold itemV at hlk
  obtain ⟨wx, hwx⟩ : ∃ wx, wx = w1.alloc (.cells #[.int .u64 (x.1 : Nat), .int .u64 (x.2 : Nat)] 34) := ⟨_, rfl⟩
  have hbx : Below w1.heap.size w1 wx := by rw [hwx]; exact (Below.refl _ _).alloc (Nat.le_refl _) _
  have hhx : wx.heap[w1.heap.size]? = some (.cells #[.int .u64 (x.1 : Nat), .int .u64 (x.2 : Nat)] 34 (0, 0)) := by rw [hwx]; exact heap_alloc_new w1 _
  have hzx : w1.heap.size < wx.heap.size := by rw [hwx, World.size_alloc]; omega
  have hwX := hw1.later hbx
  obtain ⟨e0, em, -⟩ := hwX.cells
  obtain ⟨wd, hrun, hmd, hturn⟩ := hwX.map.drop HID.out x.1 (by have := HWL.out.sm x hx; exact this.1) 0
  obtain ⟨k1, k2⟩ := hwX.setM hturn hmd
  have hxd : wd.heap[w1.heap.size]? = wx.heap[w1.heap.size]? := k2.kb.block _ hzx (fun e => by have := hw1.lt _ e; omega)
  have HCD : Hid (Chg w wd (Any b V) (Any b V)) := Lib.hid ((Chg.of_below _ (hb1.trans (hbx.mono hb1.size))).trans k2)
  have HLL := Lib.hid (LessL.start k1 x)
  have HXD := Lib.hid (hxd.trans hhx)
  have HZD : Hid (w1.heap.size < wd.heap.size) := Lib.hid (Nat.lt_of_lt_of_le hzx k2.kb.size)
  have HLT1 : Hid (∀ g, Any b V g → g < w1.heap.size) := Lib.hid fun g e => hw1.lt g e
  obtain ⟨arr, harr⟩ : ∃ a : Array Value, a = lvArr V := ⟨_, rfl⟩
  have HI : Hid (∀ (i : Nat) (hi : i < 4) (W : World), (Instr.index 86 (.agg arr) (.int .i64 (i : Int))).run Tryd.prog W = .ok (.pointer (some ⟨V.bl i, 0, none⟩)) W) := Lib.hid fun i hi W => by rw [harr]; exact index_lv V i hi W
  have HLD := Lib.hid (load_lv k1)
  rw [← harr] at HLD
  obtain ⟨xb, hxb⟩ : ∃ xb, xb = w1.heap.size := ⟨_, rfl⟩
  rw [← hxb] at HXD HZD HLT1
  have HBW := Lib.hid (hb1.size)
  replace harr := Lib.hid harr
  replace hwx := Lib.hid hwx
  replace hxb := Lib.hid hxb
  clear hb1 hw1 hbx hhx hzx hwX hmd hturn k1 k2 hxd
  go_upto_region 6 with fail
  rw [← hwx.out, ← hxb.out]
  clear hlk cm c0
  go_wp2_with (refine Lo.wpList_load_run wd rfl 86 (.tmp 30) rfl (.agg arr) (.pointer (some ⟨b, 2, none⟩)) rfl HLD.out ?_)
  clear hrun em e0
  go_loopw [32] (fun vi wr => ∃ (i : Nat) (V' : WV) (L' : Nat → Nat → List (Nat × Nat)), vi = .int .i64 (i : Int) ∧ i ≤ 4 ∧ LessL base wd wr b now V L D F (noId T x.1) i x V' L') (fun vi _ => 5 - (intOf vi).toNat)
  case atStart => exact ⟨0, V, L, rfl, by omega, HLL.out⟩
  case round =>
    obtain ⟨i, V', L', rfl, hi, hll⟩ := hrel
    rename_i wr
    have HL := Lib.hid hll
    have hbox : wr.heap[xb]? = some (.cells #[.int .u64 (x.1 : Nat), .int .u64 (x.2 : Nat)] 34 (0, 0)) := (hll.chg.kb.block xb HZD.out (fun e => by have := HLT1.out xb e; omega)).trans HXD.out
    have hno : ∀ g, Any b V' g → g ≠ xb := fun g e => by
      rcases hll.chg.grow g e with q | q
      · have := HLT1.out g q; omega
      · have := HZD.out; omega
    by_cases hi4 : i < 4
    · have hi4' : (i : Int) < 4 := by omega
      have hix := HI.out i hi4
      rw [← hll.bl] at hix
      have hLi := hll.hi i (Nat.le_refl _)
      have HRM := Lib.hid (lvl_remove hll.ww hi4 x ha (fun s hs => by rw [hLi]; exact Nat.le_trans (HBL.out i s hi4 hs) hT) (fun s hs => by rw [hLi]; exact HP.out.ln i s hi4 hs) (fun s hs e => by rw [hLi] at e; exact HSL.out i s hi4 hs e))
      obtain ⟨x0, x1, -⟩ := cellsY hbox
      clear hll hbox hno hLi
      go_wp2_with fail
      refine HRM.out.mono ?_
      rintro e w5 ⟨⟨r, rfl⟩, hrm⟩
      have HS := Lib.hid (HL.out.step hrm)
      clear hrm
      go_wp2_with fail
      obtain ⟨V2, L2, h5⟩ := HS.out
      exact ⟨⟨i + 1, V2, L2, rfl, by omega, h5⟩, by simp [intOf]; omega⟩
    · have hi4' : ¬ ((i : Int) < 4) := by omega
      have hie : i = 4 := by omega
      subst hie
      obtain ⟨-, -, -, d6, d7, fzr⟩ := hll.ww.cells
      have f6 := fzr 6
      have f7 := fzr 7
      obtain ⟨AD, cD, hvd, -, -⟩ := hll.ww.due.opened
      obtain ⟨AF, cF, hvf, -, -⟩ := hll.ww.far.opened
      have hbd : Below wr.heap.size wr wr.drew := below_drew (Below.refl _ _)
      have HVD := Lib.hid hvd
      have HVF := Lib.hid hvf
      have hDU := hll.ww.due
      have hFA := hll.ww.far
      have hnd : V'.vd.ownBlock ≠ some xb := fun e => hno xb ⟨4, by omega, e⟩ rfl
      have hnf : V'.vf.ownBlock ≠ some xb := fun e => hno xb ⟨5, by omega, e⟩ rfl
      rw [hvd] at d6 hDU hnd
      rw [hvf] at d7 hFA hnf
      have hap : ∀ g, (Value.slice AD D.length cD).ownBlock = some g → (Value.slice AF F.length cF).ownBlock ≠ some g ∧ g ≠ b := fun g hg => by
        rw [← hvd] at hg
        rw [← hvf]
        exact ⟨fun e => hll.ww.apart 4 5 (by omega) (by omega) (by omega) g hg e, fun e => hll.ww.apart 4 6 (by omega) (by omega) (by omega) g hg e⟩
      have hapf : ∀ g, (Value.slice AF F.length cF).ownBlock = some g → g ≠ b := fun g hg => by
        rw [← hvf] at hg
        exact fun e => hll.ww.apart 5 6 (by omega) (by omega) (by omega) g hg e
      have hblt : b < wr.heap.size := hll.ww.lt b ⟨6, by omega, rfl⟩
      have hxl : xb < wr.heap.size := (Array.getElem?_eq_some_iff.1 hbox).1
      have HBB := Lib.hid hll.ww.blk
      have HD1 := Lib.hid (delfunc_any D (by omega) HP.out.dn _ x xb wr.drew (hDU.later hbd) hbox hnd)
      have HDU := Lib.hid hDU
      have HFA := Lib.hid hFA
      have HAP := Lib.hid hap
      have HAPF := Lib.hid hapf
      have HBOX := Lib.hid hbox
      have HNF := Lib.hid hnf
      have HD2 : Hid (∀ (W : World) (v' : Value), KB wr.drew W (fun g => (Value.slice AD D.length cD).ownBlock = some g) → W.heap[b]? = wr.heap[b]? ∧ W.cell? ⟨b, 7, none⟩ = some (.slice AF F.length cF) ∧ Calls Tryd.prog 53 #[.slice AF F.length cF, .func (.func 52) #[] #[.pointer (some ⟨xb, 0, none⟩)]] W fun e w' => ∃ v', e = .returned v' ∧ v'.ownBlock = (Value.slice AF F.length cF).ownBlock ∧ IRow 34 w' base v' (wo F x) ∧ KB W w' (fun g => (Value.slice AF F.length cF).ownBlock = some g)) := Lib.hid (by
        intro W v' kb
        have hb' : W.heap[b]? = wr.heap[b]? := kb.block b hblt (fun e => (hap b e).2 rfl)
        have hc7 : W.cell? ⟨b, 7, none⟩ = some (.slice AF F.length cF) := by
          rw [← d7]; unfold World.cell?; simp only [hb']
        refine ⟨hb', hc7, delfunc_any F (by omega) HP.out.fn _ x xb W ?_ ((kb.block xb hxl (fun e => hnd e)).trans hbox) hnf⟩
        exact (hFA.later hbd).keepKB kb fun g hg e => (hap g e).1 hg)
      clear hll hbox hno hvd hvf hDU hFA hap hapf hbd hnd hnf fzr
      go_wp2_with fail
      refine wp_region_any (by kernel_rfl) ?_
      change wpAny _ _ _ _ _ _ _ (World.drew _)
      refine takeA (i := 0) (v := ?_) rfl (by kernel_rfl) (by kernel_rfl) (by kernel_rfl) (fun _ _ _ h => h) (Or.inl ⟨by rfl, ?_⟩) ?_
      rotate_left 1
      focus (intro w; go_simp; try with_reducible rfl)
      try simp only [Act.put, List.setIfInBounds_toArray, List.set_cons_zero, List.set_cons_succ]
      refine takeA (i := 1) (v := ?_) rfl (by kernel_rfl) (by kernel_rfl) (by kernel_rfl) (fun _ _ _ h => h) (Or.inl ⟨by rfl, ?_⟩) ?_
      rotate_left 1
      focus (intro w; go_simp; try with_reducible rfl)
      try simp only [Act.put, List.setIfInBounds_toArray, List.set_cons_zero, List.set_cons_succ]
      refine takeA (i := 2) (v := ?_) rfl (by kernel_rfl) (by kernel_rfl) (by kernel_rfl) (fun _ _ _ h => h) (Or.inl ⟨by rfl, ?_⟩) ?_
      rotate_left 1
      focus (intro w; go_simp; try with_reducible rfl)
      try simp only [Act.put, List.setIfInBounds_toArray, List.set_cons_zero, List.set_cons_succ]
      refine takeA (i := 3) (v := ?_) rfl (by kernel_rfl) (by kernel_rfl) (by kernel_rfl) (fun _ _ _ h => h) (Or.inl ⟨by rfl, ?_⟩) ?_
      rotate_left 1
      focus (intro w; go_simp; try with_reducible rfl)
      try simp only [Act.put, List.setIfInBounds_toArray, List.set_cons_zero, List.set_cons_succ]
      refine takeA (i := 4) (v := ?_) rfl (by kernel_rfl) (by kernel_rfl) (by kernel_rfl) (fun _ _ _ h => h) (Or.inl ⟨by rfl, ?_⟩) ?_
      rotate_left 1
      focus (intro w; go_simp; try with_reducible rfl)
      try simp only [Act.put, List.setIfInBounds_toArray, List.set_cons_zero, List.set_cons_succ]
      refine takeA (i := 6) (v := ?_) rfl (by kernel_rfl) (by kernel_rfl) (by kernel_rfl) (fun _ _ _ h => h) (Or.inl ⟨by rfl, ?_⟩) ?_
      rotate_left 1
      focus (intro w; go_simp; try with_reducible rfl)
      try simp only [Act.put, List.setIfInBounds_toArray, List.set_cons_zero, List.set_cons_succ]
      refine takeA (i := 8) (v := ?_) rfl (by kernel_rfl) (by kernel_rfl) (by kernel_rfl) (fun _ _ _ h => h) (Or.inl ⟨by rfl, ?_⟩) ?_
      rotate_left 1
      focus (intro w; go_simp; try with_reducible rfl)
      try simp only [Act.put, List.setIfInBounds_toArray, List.set_cons_zero, List.set_cons_succ]
      refine takeA (i := 9) (v := ?_) rfl (by kernel_rfl) (by kernel_rfl) (by kernel_rfl) (fun _ _ _ h => h) (Or.inl ⟨by rfl, ?_⟩) ?_
      rotate_left 1
      focus (intro w; go_simp; try with_reducible rfl)
      try simp only [Act.put, List.setIfInBounds_toArray, List.set_cons_zero, List.set_cons_succ]
      refine takeA (i := 10) (v := ?_) rfl (by kernel_rfl) (by kernel_rfl) (by kernel_rfl) (fun _ _ _ h => h) (Or.inl ⟨by rfl, ?_⟩) ?_
      rotate_left 1
      focus (intro w; go_simp; try with_reducible rfl)
      try simp only [Act.put, List.setIfInBounds_toArray, List.set_cons_zero, List.set_cons_succ]
      refine takeA (i := 12) (v := ?_) rfl (by kernel_rfl) (by kernel_rfl) (by kernel_rfl) (fun _ _ _ h => h) (Or.inl ⟨by rfl, ?_⟩) ?_
      rotate_left 1
      focus (intro w; go_simp; try with_reducible rfl)
      try simp only [Act.put, List.setIfInBounds_toArray, List.set_cons_zero, List.set_cons_succ]
      refine wpAny_ready (rs := [5, 11]) (by kernel_rfl) (by simp) ?_
      refine consA rfl (fun K hK => ?_) ?_
      · go_simp
        refine hK _ _ ?_
        clear hK K
        try simp only [Act.put, List.setIfInBounds_toArray, List.set_cons_zero, List.set_cons_succ]
        refine wpAny_ready (rs := [7, 11]) (by kernel_rfl) (by simp) ?_
        refine consA rfl (fun K hK => ?_) ?_
        · go_simp
          refine HD1.out.mono ?_
          rintro e w7 ⟨v7, rfl, ho7, row7, kb7⟩
          obtain ⟨hb7, hc7, hd2⟩ := HD2.out w7 v7 kb7
          obtain ⟨A7, cap7, rfl, -, -⟩ := row7.opened
          have HD27 := Lib.hid hd2
          have HO7 := Lib.hid ho7
          have ROW7 := Lib.hid row7
          have KB7 := Lib.hid kb7
          have HB7 := Lib.hid hb7
          clear ho7 row7 kb7 hb7 hd2
          go_wp2_with fail
          try simp only [Act.put, List.setIfInBounds_toArray, List.set_cons_zero, List.set_cons_succ]
          refine wpAny_ready (rs := [11]) (by kernel_rfl) (by simp) ?_
          refine consA rfl (fun K hK => ?_) AllReady.nil
          go_simp
          refine hK _ _ ?_
          clear hK K
          try simp only [Act.put, List.setIfInBounds_toArray, List.set_cons_zero, List.set_cons_succ]
          refine wpAny_ready (rs := [13]) (by kernel_rfl) (by simp) ?_
          refine consA rfl (fun K hK => ?_) AllReady.nil
          go_simp
          refine HD27.out.mono ?_
          rintro e w13 ⟨v13, rfl, ho13, row13, kb13⟩
          obtain ⟨A13, cap13, rfl, -, -⟩ := row13.opened
          have hb13 := (kb13.block b (Nat.lt_of_lt_of_le hblt KB7.out.size) (fun e => HAPF.out b e rfl)).trans (HB7.out.trans HBB.out)
          have p6 : w13.frozen? ⟨b, 6, none⟩ = false := Lo.free_block hb13 6
          have p7 : w13.frozen? ⟨b, 7, none⟩ = false := Lo.free_block hb13 7
          have q6 : w13.cell? ⟨b, 6, none⟩ = some V'.vd := by rw [Lo.cell_block hb13]; rfl
          have q7 : w13.cell? ⟨b, 7, none⟩ = some V'.vf := by rw [Lo.cell_block hb13]; rfl
          have HFIN := Lib.hid (cancel_fin (vd' := .slice A7 (wo D x).length cap7) (vf' := .slice A13 (wo F x).length cap13) HWL.out HXT.out HV.out HP.out HCD.out HL.out (KB.trans (KB.trans (KB.of_below (fun g => V'.vd.ownBlock = some g ∨ V'.vf.ownBlock = some g) (below_drew (Below.refl _ _))) KB7.out (fun j _ e => .inl (by rw [HVD.out]; exact e))) kb13 (fun j _ e => .inr (by rw [HVF.out]; exact e))) (ROW7.out.keepKB kb13 (fun g hg e => (HAP.out g (HO7.out ▸ hg)).1 e)) row13 (by rw [HVD.out]; exact HO7.out) (by rw [HVF.out]; exact ho13))
          clear ho13 row13 kb13 hb13
          go_wp2_with fail
          try simp only [Act.put, List.setIfInBounds_toArray, List.set_cons_zero, List.set_cons_succ]
          refine takeA (i := 14) (v := ?_) rfl (by kernel_rfl) (by kernel_rfl) (by kernel_rfl) (fun _ _ _ h => h) (Or.inl ⟨by rfl, ?_⟩) ?_
          rotate_left 1
          focus (intro w; go_simp; try with_reducible rfl)
          try simp only [Act.put, List.setIfInBounds_toArray, List.set_cons_zero, List.set_cons_succ]
          refine takeA (i := 15) (v := ?_) rfl (by kernel_rfl) (by kernel_rfl) (by kernel_rfl) (fun _ _ _ h => h) (Or.inl ⟨by rfl, ?_⟩) ?_
          rotate_left 1
          focus (intro w; go_simp; try with_reducible rfl)
          try simp only [Act.put, List.setIfInBounds_toArray, List.set_cons_zero, List.set_cons_succ]
          refine wpAny_ready (rs := [16]) (by kernel_rfl) (by simp) ?_
          refine consA rfl (fun K hK => ?_) AllReady.nil
          go_simp
          refine hK _ _ ?_
          clear hK K
          try simp only [Act.put, List.setIfInBounds_toArray, List.set_cons_zero, List.set_cons_succ]
          refine takeA (i := 17) (v := ?_) rfl (by kernel_rfl) (by kernel_rfl) (by kernel_rfl) (fun _ _ _ h => h) (Or.inl ⟨by rfl, ?_⟩) ?_
          rotate_left 1
          focus (intro w; go_simp; try with_reducible rfl)
          try simp only [Act.put, List.setIfInBounds_toArray, List.set_cons_zero, List.set_cons_succ]
          refine takeA (i := 18) (v := ?_) rfl (by kernel_rfl) (by kernel_rfl) (by kernel_rfl) (fun _ _ _ h => h) (Or.inl ⟨by rfl, ?_⟩) ?_
          rotate_left 1
          focus (intro w; go_simp; try with_reducible rfl)
          try simp only [Act.put, List.setIfInBounds_toArray, List.set_cons_zero, List.set_cons_succ]
          refine wpAny_ready (rs := [19]) (by kernel_rfl) (by simp) ?_
          refine consA rfl (fun K hK => ?_) AllReady.nil
          go_simp
          refine hK _ _ ?_
          clear hK K
          try simp only [Act.put, List.setIfInBounds_toArray, List.set_cons_zero, List.set_cons_succ]
          refine wpAny_done (by kernel_rfl) ?_ _
          go_wp2_with fail
          go_ret
          exact ⟨rfl, HFIN.out⟩
        · refine consA rfl (fun K hK => ?_) AllReady.nil
          go_simp
          refine hK _ _ ?_
          clear hK K
          try simp only [Act.put, List.setIfInBounds_toArray, List.set_cons_zero, List.set_cons_succ]
          refine wpAny_ready (rs := [7]) (by kernel_rfl) (by simp) ?_
          refine consA rfl (fun K hK => ?_) AllReady.nil
          go_simp
          refine HD1.out.mono ?_
          rintro e w7 ⟨v7, rfl, ho7, row7, kb7⟩
          obtain ⟨hb7, hc7, hd2⟩ := HD2.out w7 v7 kb7
          obtain ⟨A7, cap7, rfl, -, -⟩ := row7.opened
          have HD27 := Lib.hid hd2
          have HO7 := Lib.hid ho7
          have ROW7 := Lib.hid row7
          have KB7 := Lib.hid kb7
          have HB7 := Lib.hid hb7
          clear ho7 row7 kb7 hb7 hd2
          go_wp2_with fail
          try simp only [Act.put, List.setIfInBounds_toArray, List.set_cons_zero, List.set_cons_succ]
          refine wpAny_ready (rs := [13]) (by kernel_rfl) (by simp) ?_
          refine consA rfl (fun K hK => ?_) AllReady.nil
          go_simp
          refine HD27.out.mono ?_
          rintro e w13 ⟨v13, rfl, ho13, row13, kb13⟩
          obtain ⟨A13, cap13, rfl, -, -⟩ := row13.opened
          have hb13 := (kb13.block b (Nat.lt_of_lt_of_le hblt KB7.out.size) (fun e => HAPF.out b e rfl)).trans (HB7.out.trans HBB.out)
          have p6 : w13.frozen? ⟨b, 6, none⟩ = false := Lo.free_block hb13 6
          have p7 : w13.frozen? ⟨b, 7, none⟩ = false := Lo.free_block hb13 7
          have q6 : w13.cell? ⟨b, 6, none⟩ = some V'.vd := by rw [Lo.cell_block hb13]; rfl
          have q7 : w13.cell? ⟨b, 7, none⟩ = some V'.vf := by rw [Lo.cell_block hb13]; rfl
          have HFIN := Lib.hid (cancel_fin (vd' := .slice A7 (wo D x).length cap7) (vf' := .slice A13 (wo F x).length cap13) HWL.out HXT.out HV.out HP.out HCD.out HL.out (KB.trans (KB.trans (KB.of_below (fun g => V'.vd.ownBlock = some g ∨ V'.vf.ownBlock = some g) (below_drew (Below.refl _ _))) KB7.out (fun j _ e => .inl (by rw [HVD.out]; exact e))) kb13 (fun j _ e => .inr (by rw [HVF.out]; exact e))) (ROW7.out.keepKB kb13 (fun g hg e => (HAP.out g (HO7.out ▸ hg)).1 e)) row13 (by rw [HVD.out]; exact HO7.out) (by rw [HVF.out]; exact ho13))
          clear ho13 row13 kb13 hb13
          go_wp2_with fail
          try simp only [Act.put, List.setIfInBounds_toArray, List.set_cons_zero, List.set_cons_succ]
          refine takeA (i := 14) (v := ?_) rfl (by kernel_rfl) (by kernel_rfl) (by kernel_rfl) (fun _ _ _ h => h) (Or.inl ⟨by rfl, ?_⟩) ?_
          rotate_left 1
          focus (intro w; go_simp; try with_reducible rfl)
          try simp only [Act.put, List.setIfInBounds_toArray, List.set_cons_zero, List.set_cons_succ]
          refine takeA (i := 15) (v := ?_) rfl (by kernel_rfl) (by kernel_rfl) (by kernel_rfl) (fun _ _ _ h => h) (Or.inl ⟨by rfl, ?_⟩) ?_
          rotate_left 1
          focus (intro w; go_simp; try with_reducible rfl)
          try simp only [Act.put, List.setIfInBounds_toArray, List.set_cons_zero, List.set_cons_succ]
          refine wpAny_ready (rs := [16]) (by kernel_rfl) (by simp) ?_
          refine consA rfl (fun K hK => ?_) AllReady.nil
          go_simp
          refine hK _ _ ?_
          clear hK K
          try simp only [Act.put, List.setIfInBounds_toArray, List.set_cons_zero, List.set_cons_succ]
          refine takeA (i := 17) (v := ?_) rfl (by kernel_rfl) (by kernel_rfl) (by kernel_rfl) (fun _ _ _ h => h) (Or.inl ⟨by rfl, ?_⟩) ?_
          rotate_left 1
          focus (intro w; go_simp; try with_reducible rfl)
          try simp only [Act.put, List.setIfInBounds_toArray, List.set_cons_zero, List.set_cons_succ]
          refine takeA (i := 18) (v := ?_) rfl (by kernel_rfl) (by kernel_rfl) (by kernel_rfl) (fun _ _ _ h => h) (Or.inl ⟨by rfl, ?_⟩) ?_
          rotate_left 1
          focus (intro w; go_simp; try with_reducible rfl)
          try simp only [Act.put, List.setIfInBounds_toArray, List.set_cons_zero, List.set_cons_succ]
          refine wpAny_ready (rs := [19]) (by kernel_rfl) (by simp) ?_
          refine consA rfl (fun K hK => ?_) AllReady.nil
          go_simp
          refine hK _ _ ?_
          clear hK K
          try simp only [Act.put, List.setIfInBounds_toArray, List.set_cons_zero, List.set_cons_succ]
          refine wpAny_done (by kernel_rfl) ?_ _
          go_wp2_with fail
          go_ret
          exact ⟨rfl, HFIN.out⟩
      · refine consA rfl (fun K hK => ?_) AllReady.nil
        go_simp
        refine hK _ _ ?_
        clear hK K
        try simp only [Act.put, List.setIfInBounds_toArray, List.set_cons_zero, List.set_cons_succ]
        refine wpAny_ready (rs := [5]) (by kernel_rfl) (by simp) ?_
        refine consA rfl (fun K hK => ?_) AllReady.nil
        go_simp
        refine hK _ _ ?_
        clear hK K
        try simp only [Act.put, List.setIfInBounds_toArray, List.set_cons_zero, List.set_cons_succ]
        refine wpAny_ready (rs := [7]) (by kernel_rfl) (by simp) ?_
        refine consA rfl (fun K hK => ?_) AllReady.nil
        go_simp
        refine HD1.out.mono ?_
        rintro e w7 ⟨v7, rfl, ho7, row7, kb7⟩
        obtain ⟨hb7, hc7, hd2⟩ := HD2.out w7 v7 kb7
        obtain ⟨A7, cap7, rfl, -, -⟩ := row7.opened
        have HD27 := Lib.hid hd2
        have HO7 := Lib.hid ho7
        have ROW7 := Lib.hid row7
        have KB7 := Lib.hid kb7
        have HB7 := Lib.hid hb7
        clear ho7 row7 kb7 hb7 hd2
        go_wp2_with fail
        try simp only [Act.put, List.setIfInBounds_toArray, List.set_cons_zero, List.set_cons_succ]
        refine wpAny_ready (rs := [13]) (by kernel_rfl) (by simp) ?_
        refine consA rfl (fun K hK => ?_) AllReady.nil
        go_simp
        refine HD27.out.mono ?_
        rintro e w13 ⟨v13, rfl, ho13, row13, kb13⟩
        obtain ⟨A13, cap13, rfl, -, -⟩ := row13.opened
        have hb13 := (kb13.block b (Nat.lt_of_lt_of_le hblt KB7.out.size) (fun e => HAPF.out b e rfl)).trans (HB7.out.trans HBB.out)
        have p6 : w13.frozen? ⟨b, 6, none⟩ = false := Lo.free_block hb13 6
        have p7 : w13.frozen? ⟨b, 7, none⟩ = false := Lo.free_block hb13 7
        have q6 : w13.cell? ⟨b, 6, none⟩ = some V'.vd := by rw [Lo.cell_block hb13]; rfl
        have q7 : w13.cell? ⟨b, 7, none⟩ = some V'.vf := by rw [Lo.cell_block hb13]; rfl
        have HFIN := Lib.hid (cancel_fin (vd' := .slice A7 (wo D x).length cap7) (vf' := .slice A13 (wo F x).length cap13) HWL.out HXT.out HV.out HP.out HCD.out HL.out (KB.trans (KB.trans (KB.of_below (fun g => V'.vd.ownBlock = some g ∨ V'.vf.ownBlock = some g) (below_drew (Below.refl _ _))) KB7.out (fun j _ e => .inl (by rw [HVD.out]; exact e))) kb13 (fun j _ e => .inr (by rw [HVF.out]; exact e))) (ROW7.out.keepKB kb13 (fun g hg e => (HAP.out g (HO7.out ▸ hg)).1 e)) row13 (by rw [HVD.out]; exact HO7.out) (by rw [HVF.out]; exact ho13))
        clear ho13 row13 kb13 hb13
        go_wp2_with fail
        try simp only [Act.put, List.setIfInBounds_toArray, List.set_cons_zero, List.set_cons_succ]
        refine takeA (i := 14) (v := ?_) rfl (by kernel_rfl) (by kernel_rfl) (by kernel_rfl) (fun _ _ _ h => h) (Or.inl ⟨by rfl, ?_⟩) ?_
        rotate_left 1
        focus (intro w; go_simp; try with_reducible rfl)
        try simp only [Act.put, List.setIfInBounds_toArray, List.set_cons_zero, List.set_cons_succ]
        refine takeA (i := 15) (v := ?_) rfl (by kernel_rfl) (by kernel_rfl) (by kernel_rfl) (fun _ _ _ h => h) (Or.inl ⟨by rfl, ?_⟩) ?_
        rotate_left 1
        focus (intro w; go_simp; try with_reducible rfl)
        try simp only [Act.put, List.setIfInBounds_toArray, List.set_cons_zero, List.set_cons_succ]
        refine wpAny_ready (rs := [16]) (by kernel_rfl) (by simp) ?_
        refine consA rfl (fun K hK => ?_) AllReady.nil
        go_simp
        refine hK _ _ ?_
        clear hK K
        try simp only [Act.put, List.setIfInBounds_toArray, List.set_cons_zero, List.set_cons_succ]
        refine takeA (i := 17) (v := ?_) rfl (by kernel_rfl) (by kernel_rfl) (by kernel_rfl) (fun _ _ _ h => h) (Or.inl ⟨by rfl, ?_⟩) ?_
        rotate_left 1
        focus (intro w; go_simp; try with_reducible rfl)
        try simp only [Act.put, List.setIfInBounds_toArray, List.set_cons_zero, List.set_cons_succ]
        refine takeA (i := 18) (v := ?_) rfl (by kernel_rfl) (by kernel_rfl) (by kernel_rfl) (fun _ _ _ h => h) (Or.inl ⟨by rfl, ?_⟩) ?_
        rotate_left 1
        focus (intro w; go_simp; try with_reducible rfl)
        try simp only [Act.put, List.setIfInBounds_toArray, List.set_cons_zero, List.set_cons_succ]
        refine wpAny_ready (rs := [19]) (by kernel_rfl) (by simp) ?_
        refine consA rfl (fun K hK => ?_) AllReady.nil
        go_simp
        refine hK _ _ ?_
        clear hK K
        try simp only [Act.put, List.setIfInBounds_toArray, List.set_cons_zero, List.set_cons_succ]
        refine wpAny_done (by kernel_rfl) ?_ _
        go_wp2_with fail
        go_ret
        exact ⟨rfl, HFIN.out⟩
end Wh
end Go.Proofs.YtkjlfoihojfnbaaDoor
