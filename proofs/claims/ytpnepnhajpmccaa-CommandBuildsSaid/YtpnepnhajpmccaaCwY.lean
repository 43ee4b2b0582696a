/- The walk of CommandBuilds. -/
import Derived.Test.YtpnepnhajpmccaaCwU
import Derived.Test.YtpnepnhajpmccaaCwX
namespace Go.Proofs.Ytpnepnhajpmccaa
open Go.RowKit
set_option linter.unusedVariables false
namespace Cm
variable {X : Nat → Prop}
open Nm (bitsW ret_int ret_bool)
open Vt (VT Rep BoxAt below_drew Cloned put5 toList_inj rowCells)
open Ev (EV FieldsOk evCells vCells EBox ERep zeroT)

/-- A builder and the reference's. -/
structure OW (w wr : World) (ga gm : Nat) (sa sm : BS) (Aa Am : Option Addr) (cm : Nat) : Prop where
  below : Below w.heap.size w wr
  gm_ge : w.heap.size ≤ gm
  ha : BH (fun x => x = gm) wr w.heap.size ga Aa sa
  hm : MAt wr w.heap.size Am cm sm.es
  box : wr.heap[gm]? = some (.cells #[.int .u64 sm.next, .int .u64 sm.at', .slice Am sm.es.length cm] 30 (0, 0))
  gam : ga ≠ gm
  ram : rowOf Aa ≠ some gm
  rma : rowOf Am ≠ some ga
  rmm : rowOf Am ≠ some gm
  rr2 : ∀ r, rowOf Aa = some r → rowOf Am ≠ some r

variable {w wr w' : World} {ga gm : Nat} {sa sm s' : BS} {Aa Am : Option Addr} {cm : Nat}

theorem OW.later (h : OW w wr ga gm sa sm Aa Am cm) (hb : Below wr.heap.size wr w') : OW w w' ga gm sa sm Aa Am cm :=
  { h with below := h.below.trans (hb.mono h.below.size), ha := h.ha.later hb, hm := h.hm.later h.below.size hb, box := (hb.block gm (Array.getElem?_eq_some_iff.1 h.box).1).trans h.box }
theorem OW.gm_lt (h : OW w wr ga gm sa sm Aa Am cm) : gm < wr.heap.size := (Array.getElem?_eq_some_iff.1 h.box).1

theorem OW.stepA (h : OW w wr ga gm sa sm Aa Am cm) (hs : BStep (fun x => x = gm) wr w' w.heap.size ga Aa s') : ∃ Aa', OW w w' ga gm s' sm Aa' Am cm := by
  obtain ⟨Aa', h1, h2, h3⟩ := hs
  have hblk : ∀ b, b < wr.heap.size → b ≠ ga → rowOf Aa ≠ some b → w'.heap[b]? = wr.heap[b]? := fun b hb q1 q2 => h2.block b hb q1 (fun e => q2 e.symm)
  have hga := h.ha.lt
  have hgm := h.gm_lt
  have hrA : ∀ r, rowOf Aa' = some r → rowOf Aa = some r ∨ wr.heap.size ≤ r := fun r hr => h3.elim (fun e => .inl (e ▸ hr)) (fun k => .inr (k r hr))
  have hnew : ∀ x, x < wr.heap.size → rowOf Aa ≠ some x → rowOf Aa' ≠ some x := fun x hx hn e => by
    rcases hrA x e with q | q
    · exact hn q
    · omega
  refine ⟨Aa', ⟨h.below.trans ((h2.below (base := w.heap.size) hga.2 (fun r hr => (h.ha.row_lt hr).2) h.below.size)), h.gm_ge, h1, ?_, (hblk gm hgm h.gam.symm h.ram).trans h.box, h.gam, hnew gm hgm h.ram, h.rma, h.rmm, ?_⟩⟩
  · refine h.hm.frame (h2.below (base := w.heap.size) hga.2 (fun r hr => (h.ha.row_lt hr).2) h.below.size) (fun r hr => hblk r (h.hm.row_in hr) (fun e => h.rma (e ▸ hr)) (fun e => h.rr2 r e hr))
  · intro r hr hb
    rcases hrA r hr with q | q
    · exact h.rr2 r q hb
    · have := h.hm.row_in hb; omega

theorem OW.stepM {Am' : Option Addr} {cm' : Nat} (h : OW w wr ga gm sa sm Aa Am cm) (hr : RRes wr w' w.heap.size Am s' Am' cm') :
    OW w (((w'.setCell ⟨gm, 0, none⟩ (.int .u64 s'.next)).setCell ⟨gm, 1, none⟩ (.int .u64 s'.at')).setCell ⟨gm, 2, none⟩ (.slice Am' s'.es.length cm')) ga gm sa s' Aa Am' cm' := by
  obtain ⟨h1, h2, h3⟩ := hr
  have k := h.later h1
  have hga := h.ha.lt
  have hgm := h.gm_lt
  have hrM : ∀ r, rowOf Am' = some r → rowOf Am = some r ∨ wr.heap.size ≤ r := fun r hr => h3.elim (fun e => .inl (by rw [← e]; exact hr)) (fun k => .inr (k r hr))
  have hnew : ∀ x, x < wr.heap.size → rowOf Am ≠ some x → rowOf Am' ≠ some x := fun x hx hn e => by
    rcases hrM x e with q | q
    · exact hn q
    · omega
  have hsz : ∀ (W : World) (p : Addr) (v : Value), (W.setCell p v).heap.size = W.heap.size := fun W p v => by simp [World.setCell]
  have hblk : ∀ (v0 v1 v2 : Value) (b : Nat), b ≠ gm → (((w'.setCell ⟨gm, 0, none⟩ v0).setCell ⟨gm, 1, none⟩ v1).setCell ⟨gm, 2, none⟩ v2).heap[b]? = w'.heap[b]? := fun v0 v1 v2 b hb => by
    rw [Below.heap_setCell _ _ _ b (by simpa using hb), Below.heap_setCell _ _ _ b (by simpa using hb), Below.heap_setCell _ _ _ b (by simpa using hb)]
  have hbel : ∀ (v0 v1 v2 : Value), Below w.heap.size w (((w'.setCell ⟨gm, 0, none⟩ v0).setCell ⟨gm, 1, none⟩ v1).setCell ⟨gm, 2, none⟩ v2) := fun v0 v1 v2 =>
    (((k.below).setCell h.gm_ge v0).setCell h.gm_ge v1).setCell h.gm_ge v2
  refine ⟨hbel _ _ _, h.gm_ge, ?_, ?_, ?_, h.gam, h.ram, hnew ga hga.1 h.rma, hnew gm hgm h.rmm, ?_⟩
  · refine k.ha.frame (by simp [hsz]) (fun b _ hn => hblk _ _ _ b hn) h.gam (fun r hr e => h.ram (e ▸ hr))
  · exact h2.frame (((Below.refl _ _).setCell h.gm_ge _).setCell h.gm_ge _ |>.setCell h.gm_ge _) (fun r hr => hblk _ _ _ r (fun e => hnew gm hgm h.rmm (e ▸ hr)))
  · have := k.box
    simp [World.setCell, Array.getElem?_modify, this]
  · intro r hr hm
    rcases hrM r hm with q | q
    · exact h.rr2 r hr q
    · have := (h.ha.row_lt hr).1; omega

theorem RRes.later {w w' w'' : World} {base : Nat} {A A' : Option Addr} {s' : BS} {cap' : Nat} (h : RRes w w' base A s' A' cap') (hb : base ≤ w.heap.size) (hl : Below w'.heap.size w' w'') : RRes w w'' base A s' A' cap' :=
  ⟨h.1.trans (hl.mono h.1.size), h.2.1.later (Nat.le_trans hb h.1.size) hl, h.2.2⟩

theorem ow_start {w w1 w3 : World} (N T : Nat) (s0 : BS) (hs : s0 = ⟨[], 0, N, T⟩) (h1 : BAt X w1 w.heap.size w.heap.size none 0 [] 0 N T) (b1 : Below w.heap.size w w1) (b3 : Below w1.heap.size w1 w3) :
    OW w (w3.alloc (.cells #[.int .u64 N, .int .u64 T, .slice none 0 0] 30)) w.heap.size w3.heap.size s0 s0 none none 0 := by
  subst hs
  have l1 := h1.lt
  have l3 := b3.size
  have l0 := b1.size
  have bA : Below w3.heap.size w3 (w3.alloc (.cells #[.int .u64 N, .int .u64 T, .slice none 0 0] 30)) := (Below.refl _ _).alloc (Nat.le_refl _) _
  exact ⟨b1.trans ((b3.trans (bA.mono l3)).mono l0), by omega, ⟨0, ((h1.later b3).later bA).fresh (Nat.le_refl _)⟩, MAt.nil _ _, heap_alloc_new w3 _, by omega, by simp [rowOf], by simp [rowOf], by simp [rowOf], by simp [rowOf]⟩

set_option maxRecDepth 100000 in
set_option maxHeartbeats 1000000 in
theorem builds_walk (next at' : Nat) (hnx : next < 18446744073709551616) (hat : at' < 18446744073709551616) (ops : List OpT) (A : Option Addr) (cap : Nat) (w : World) (h : OpsIn w 0 w.heap.size A cap ops) :
    Calls Try.prog 3 #[.int .u64 next, .int .u64 at', .slice A ops.length cap] w fun r w' => r = .returned (.bool true) ∧ Below w.heap.size w w' := by
  have hl := h.le
  have hc := h.cap_le
  simp only [maxLen] at hc
  have HK := Lib.hid h; clear h
  go_enter Try.func3, Try.ntmps3
  go_upto_region 2 with fail
  obtain ⟨T, hT, hT1⟩ : ∃ T : Nat, (if (9223372036854775807 : Int) < (at' : Int) then (9223372036854775807 : Int) else (at' : Int)) = (T : Int) ∧ T ≤ 9223372036854775807 := by
    by_cases q : (9223372036854775807 : Int) < (at' : Int)
    · exact ⟨9223372036854775807, by rw [if_pos q]; rfl, Nat.le_refl _⟩
    · exact ⟨at', by rw [if_neg q], by omega⟩
  obtain ⟨N, hN, hN0, hN1⟩ : ∃ N : Nat, 1 + (next : Int) % 4611686018427387904 = (N : Int) ∧ 0 < N ∧ N ≤ 4611686018427387904 := ⟨1 + next % 4611686018427387904, by omega, by omega, by omega⟩
  rw [hT, hN]
  generalize (next : Int) % 4611686018427387904 = dd at *
  clear hT hN
  have HN1 := Lib.hid (new_any (X := fun _ => False) N T (by omega) (by omega) w)
  obtain ⟨s0, hs0⟩ : ∃ s0 : BS, s0 = ⟨[], 0, N, T⟩ := ⟨_, rfl⟩
  have hNl : N + 61 < 18446744073709551616 := by omega
  replace hT1 := Lib.hid hT1
  replace hNl := Lib.hid hNl
  clear hN1
  go_wp2_with fail
  refine HN1.out.mono ?_
  rintro x w1 ⟨rfl, hb1, hbl1⟩
  have HFw := Lib.hid (fewl_any ops A cap 0 w.heap.size w1 (HK.out.later hbl1))
  have hz1 := hb1.lt
  replace hb1 := Lib.hid hb1
  replace hbl1 := Lib.hid hbl1
  go_wp2_with fail
  refine HFw.out.mono ?_
  rintro x w3 ⟨b, rfl, hf, hbl3⟩
  have HB3 := Lib.hid (hbl1.out.trans (hbl3.mono hbl1.out.size))
  cases b with
  | false =>
    have HAl := Lib.hid (alive_any w3)
    go_wp2_with fail
    refine HAl.out.mono ?_
    rintro x w4 ⟨rfl, hb4⟩
    have HB4 := Lib.hid (HB3.out.trans (hb4.mono HB3.out.size))
    go_wp2_with fail
    go_ret
    exact ⟨rfl, HB4.out⟩
  | true =>
    obtain ⟨hlen, hfew⟩ := hf rfl
    have hslim : ∀ i (h : i < ops.length), ops[i].v.Slim 900 := fun i h => Vt.slim_of_few _ (hfew i h)
    have HT0 := Lib.hid (ow_start N T s0 hs0 hb1.out hbl1.out hbl3)
    have HS0 : Hid (SOk s0 N 0) := Lib.hid (by
      subst hs0
      exact ⟨rfl, hN0, Nat.le_refl _, hT1.out, Nat.le_refl _, fun i h => absurd h (by simp), fun i h => absurd h (by simp)⟩)
    have HSL := Lib.hid hslim
    have hz3 := hbl3.size
    clear hf hfew hslim hbl3 hs0 HN1 HFw hb1 hbl1
    go_wp2_with fail
    go_loopw [40] (fun i wr => ∃ (j : Nat) (s : BS) (Aa Am : Option Addr) (cm : Nat), j ≤ ops.length ∧ i = .int .i64 j ∧ OW w wr w.heap.size w3.heap.size s s Aa Am cm ∧ SOk s N j) (fun i _ => ops.length - (intOf i).toNat)
    case atStart => exact ⟨0, s0, none, none, 0, by omega, rfl, HT0.out, HS0.out⟩
    case round =>
      obtain ⟨j, s, Aa, Am, cm, hj, rfl, htw, hok⟩ := hrel
      by_cases hlt : j < ops.length
      · have hsl := HSL.out j hlt
        have hbj : N + j + 1 < 18446744073709551616 := by have := hNl.out; omega
        obtain ⟨b, off, vk, vn, vf, vs, A1, m, c, rfl, hblt, ht, hn, hv, D0, D1, D2, D3, D4, D5, D6, D7⟩ := HK.out.get j hlt
        have d0 := (htw.below.cell (p := ⟨b, _, none⟩) hblt).trans D0
        have d1 := (htw.below.cell (p := ⟨b, _, none⟩) hblt).trans D1
        have d2 := (htw.below.cell (p := ⟨b, _, none⟩) hblt).trans D2
        have d3 := (htw.below.cell (p := ⟨b, _, none⟩) hblt).trans D3
        have d4 := (htw.below.cell (p := ⟨b, _, none⟩) hblt).trans D4
        have d5 := (htw.below.cell (p := ⟨b, _, none⟩) hblt).trans D5
        have d6 := (htw.below.cell (p := ⟨b, _, none⟩) hblt).trans D6
        have d7 := (htw.below.cell (p := ⟨b, _, none⟩) hblt).trans D7
        clear D0 D1 D2 D3 D4 D5 D6 D7
        generalize hop : ops[j] = o at *
        obtain ⟨W1, hW1⟩ : ∃ W1, W1 = wr.alloc (.cells (opCells o vk vn vf vs A1 m c) 36) := ⟨_, rfl⟩
        have hBa : Below wr.heap.size wr W1 := by rw [hW1]; exact (Below.refl _ _).alloc (Nat.le_refl _) _
        have hbox : W1.heap[wr.heap.size]? = some (.cells (opCells o vk vn vf vs A1 m c) 36 (0, 0)) := by rw [hW1]; exact heap_alloc_new wr _
        have hzW : wr.heap.size < W1.heap.size := by rw [hW1]; simp
        have tw1 := htw.later hBa
        have hbz := htw.below.size
        have hoo : OpOk o := ⟨ht, hn, hsl⟩
        have HD := Lib.hid (model_any w.heap.size Am cm s N j hok hbj o hoo vk vn vf vs A1 m c W1 tw1.hm (by have := hok.len; omega) tw1.below.size (hv.later tw1.below))
        have hgl := htw.ha.lt.1
        have hgl3 := htw.gm_lt
        have hra : rowOf Aa ≠ some wr.heap.size := fun e => by have := (htw.ha.row_lt e).1; omega
        obtain ⟨m0, m1, m2, -, -, -⟩ := cells3 tw1.box
        have HTW := Lib.hid tw1
        have hbox1 := hbox
        unfold opCells at hbox1 hW1 HD
        obtain ⟨e0, e1, e2, e3, e4, e5, e6, e7⟩ := cells8 hbox1
        replace hW1 := Lib.hid hW1
        replace hbox := Lib.hid hbox
        replace hv := Lib.hid hv
        replace hok := Lib.hid hok
        replace hoo := Lib.hid hoo
        replace hbj := Lib.hid hbj
        clear htw tw1 hBa hbox1
        go_upto_region 9 with fail
        rw [← hW1.out]
        go_wp2_with fail
        refine HD.out.mono ?_
        rintro x w5 ⟨Am', cm', rfl, hr5⟩
        obtain ⟨W6, hW6⟩ : ∃ W6, W6 = w5.alloc (.cells #[.int .u64 (doS s o).1.next, .int .u64 (doS s o).1.at', .slice Am' (doS s o).1.es.length cm'] 30) := ⟨_, rfl⟩
        have hB6 : Below w5.heap.size w5 W6 := by rw [hW6]; exact (Below.refl _ _).alloc (Nat.le_refl _) _
        have hbx6 : W6.heap[w5.heap.size]? = some (.cells #[.int .u64 (doS s o).1.next, .int .u64 (doS s o).1.at', .slice Am' (doS s o).1.es.length cm'] 30 (0, 0)) := by rw [hW6]; exact heap_alloc_new w5 _
        have hr6 := hr5.later HTW.out.below.size hB6
        obtain ⟨p0, p1, p2, -, -, -⟩ := cells3 hbx6
        obtain ⟨n0, n1, n2, f0, f1, f2⟩ := cells3 (HTW.out.later hr6.1).box
        have HOW := Lib.hid (HTW.out.stepM hr6)
        have hbox6 := (hr6.1.block _ hzW).trans hbox.out
        have HOK := Lib.hid (doS_ok hok.out o hsl)
        have hz6 := hr6.1.size
        replace hW6 := Lib.hid hW6
        clear hr5 hr6 hB6 hbx6 HTW HD e0 e1 e2 e3 e4 e5 e6 e7 m0 m1 m2
        go_upto_region 10 with fail
        rw [← hW6.out]
        go_upto_region 11 with fail
        generalize hW8 : ((W6.setCell ⟨w3.heap.size, 0, none⟩ _).setCell ⟨w3.heap.size, 1, none⟩ _).setCell ⟨w3.heap.size, 2, none⟩ _ = W8 at HOW ⊢
        have hbox8 : W8.heap[wr.heap.size]? = some (.cells (opCells o vk vn vf vs A1 m c) 36 (0, 0)) := by
          rw [← hW8, Below.heap_setCell _ _ _ _ (by simp only []; omega), Below.heap_setCell _ _ _ _ (by simp only []; omega), Below.heap_setCell _ _ _ _ (by simp only []; omega)]
          exact hbox6
        have hz8 : W8.heap.size = W6.heap.size := by rw [← hW8]; simp [World.setCell]
        clear hW8 n0 n1 n2 f0 f1 f2 p0 p1 p2
        have HOD := Lib.hid (HOW.out.later (below_drew (Below.refl W8.heap.size W8)))
        have HD := Lib.hid (do_any (X := fun x => x = w3.heap.size) w.heap.size w.heap.size Aa s N j hok.out hbj.out o hoo.out 0 w.heap.size vk vn vf vs A1 m c W8.drew HOD.out.ha (by have := hok.out.len; omega) HOD.out.below.size (fun r hr => by subst hr; exact HOD.out.gm_lt) (hv.out.later HOD.out.below) HOD.out.below.size)
        have HCLO := Lib.hid HOK.out.closed
        unfold opCells at hbox8 HD
        obtain ⟨e0, e1, e2, e3, e4, e5, e6, e7⟩ := cells8 hbox8
        generalize doS s o = q at *
        obtain ⟨⟨es', cl', nx', at2⟩, n'⟩ := q
        simp only at HOW HOK HOD HD HCLO ⊢
        clear hbox8 hbox6 hok hoo hv hbox
        refine wp_region_any (by kernel_rfl) ?_
        change wpAny _ _ _ _ _ _ _ (World.drew _)
        refine takeA (i := 0) (v := ?_) rfl (by kernel_rfl) (by kernel_rfl) (by kernel_rfl) (fun _ _ _ h => h) (Or.inl ⟨by rfl, ?_⟩) ?_
        rotate_left 1
        focus (intro w; go_simp; try with_reducible rfl)
        try simp only [Act.put, List.setIfInBounds_toArray, List.set_cons_zero, List.set_cons_succ]
        refine takeA (i := 3) (v := ?_) rfl (by kernel_rfl) (by kernel_rfl) (by kernel_rfl) (fun _ _ _ h => h) (Or.inl ⟨by rfl, ?_⟩) ?_
        rotate_left 1
        focus (intro w; go_simp; try with_reducible rfl)
        try simp only [Act.put, List.setIfInBounds_toArray, List.set_cons_zero, List.set_cons_succ]
        refine wpAny_ready (rs := [1]) (by kernel_rfl) (by simp) ?_
        refine consA rfl (fun K hK => ?_) AllReady.nil
        go_simp
        refine hK _ _ ?_
        clear hK K
        try simp only [Act.put, List.setIfInBounds_toArray, List.set_cons_zero, List.set_cons_succ]
        refine wpAny_ready (rs := [2]) (by kernel_rfl) (by simp) ?_
        refine consA rfl (fun K hK => ?_) AllReady.nil
        go_simp
        refine HD.out.mono ?_
        rintro x w9 ⟨rfl, hs9⟩
        obtain ⟨Aa', ow9⟩ := HOD.out.stepA hs9
        obtain ⟨cpa, hba⟩ := ow9.ha
        have HNx := Lib.hid (next_any _ _ _ _ _ _ _ _ w9 hba)
        have HCl := Lib.hid (closed_any _ _ _ _ _ _ _ _ w9 hba)
        have HRC := Lib.hid (rclosed_any es' Am' cm' nx' at2 w9 (ow9.hm.read ow9.below.size) (by have := HOK.out.len; simp only at this; omega))
        rw [← HCLO.out] at HRC
        obtain ⟨m0, m1, m2, -, -, -⟩ := cells3 ow9.box
        have HO9 := Lib.hid ow9
        clear ow9 hs9 hba
        go_wp2_with fail
        try simp only [Act.put, List.setIfInBounds_toArray, List.set_cons_zero, List.set_cons_succ]
        refine takeA (i := 4) (v := ?_) rfl (by kernel_rfl) (by kernel_rfl) (by kernel_rfl) (fun _ _ _ h => h) (Or.inl ⟨by rfl, ?_⟩) ?_
        rotate_left 1
        focus (intro w; go_simp; try with_reducible rfl)
        try simp only [Act.put, List.setIfInBounds_toArray, List.set_cons_zero, List.set_cons_succ]
        refine takeA (i := 5) (v := ?_) rfl (by kernel_rfl) (by kernel_rfl) (by kernel_rfl) (fun _ _ _ h => h) (Or.inl ⟨by rfl, ?_⟩) ?_
        rotate_left 1
        focus (intro w; go_simp; try with_reducible rfl)
        try simp only [Act.put, List.setIfInBounds_toArray, List.set_cons_zero, List.set_cons_succ]
        refine takeA (i := 6) (v := ?_) rfl (by kernel_rfl) (by kernel_rfl) (by kernel_rfl) (fun _ _ _ h => h) (Or.inl ⟨by rfl, ?_⟩) ?_
        rotate_left 1
        focus (intro w; go_simp; try with_reducible rfl)
        try simp only [Act.put, List.setIfInBounds_toArray, List.set_cons_zero, List.set_cons_succ]
        refine takeA (i := 8) (v := ?_) rfl (by kernel_rfl) (by kernel_rfl) (by kernel_rfl) (fun _ _ _ h => h) (Or.inl ⟨by rfl, ?_⟩) ?_
        rotate_left 1
        focus (intro w; go_simp; try with_reducible rfl)
        try simp only [Act.put, List.setIfInBounds_toArray, List.set_cons_zero, List.set_cons_succ]
        refine wpAny_ready (rs := [7, 9]) (by kernel_rfl) (by simp) ?_
        refine consA rfl (fun K hK => ?_) (consA rfl (fun K hK => ?_) AllReady.nil)
        · go_simp
          refine HNx.out.mono ?_
          rintro x wz ⟨rfl, rfl⟩
          go_wp2_with fail
          try simp only [Act.put, List.setIfInBounds_toArray, List.set_cons_zero, List.set_cons_succ]
          refine wpAny_ready (rs := [9]) (by kernel_rfl) (by simp) ?_
          refine consA rfl (fun K hK => ?_) AllReady.nil
          go_simp
          refine hK _ _ ?_
          clear hK K
          try simp only [Act.put, List.setIfInBounds_toArray, List.set_cons_zero, List.set_cons_succ]
          refine takeA (i := 10) (v := ?_) rfl (by kernel_rfl) (by kernel_rfl) (by kernel_rfl) (fun _ _ _ h => h) (Or.inl ⟨by rfl, ?_⟩) ?_
          rotate_left 1
          focus (intro w; go_simp; try with_reducible rfl)
          try simp only [Act.put, List.setIfInBounds_toArray, List.set_cons_zero, List.set_cons_succ]
          refine takeA (i := 11) (v := ?_) rfl (by kernel_rfl) (by kernel_rfl) (by kernel_rfl) (fun _ _ _ h => h) (Or.inl ⟨by rfl, ?_⟩) ?_
          rotate_left 1
          focus (intro w; go_simp; try with_reducible rfl)
          try simp only [Act.put, List.setIfInBounds_toArray, List.set_cons_zero, List.set_cons_succ]
          refine takeA (i := 12) (v := ?_) rfl (by kernel_rfl) (by kernel_rfl) (by kernel_rfl) (fun _ _ _ h => h) (Or.inl ⟨by rfl, ?_⟩) ?_
          rotate_left 1
          focus (intro w; go_simp; try with_reducible rfl)
          try simp only [Act.put, List.setIfInBounds_toArray, List.set_cons_zero, List.set_cons_succ]
          refine takeA (i := 13) (v := ?_) rfl (by kernel_rfl) (by kernel_rfl) (by kernel_rfl) (fun _ _ _ h => h) (Or.inl ⟨by rfl, ?_⟩) ?_
          rotate_left 1
          focus (intro w; go_simp; try with_reducible rfl)
          try simp only [Act.put, List.setIfInBounds_toArray, List.set_cons_zero, List.set_cons_succ]
          refine wpAny_ready (rs := [14, 15]) (by kernel_rfl) (by simp) ?_
          refine consA rfl (fun K hK => ?_) (consA rfl (fun K hK => ?_) AllReady.nil)
          · go_simp
            refine HCl.out.mono ?_
            rintro x wz ⟨rfl, rfl⟩
            go_wp2_with fail
            try simp only [Act.put, List.setIfInBounds_toArray, List.set_cons_zero, List.set_cons_succ]
            refine wpAny_ready (rs := [15]) (by kernel_rfl) (by simp) ?_
            refine consA rfl (fun K hK => ?_) AllReady.nil
            go_simp
            refine hK _ _ ?_
            clear hK K
            try simp only [Act.put, List.setIfInBounds_toArray, List.set_cons_zero, List.set_cons_succ]
            refine wpAny_ready (rs := [16]) (by kernel_rfl) (by simp) ?_
            refine consA rfl (fun K hK => ?_) AllReady.nil
            go_simp
            refine HRC.out.mono ?_
            rintro x wb ⟨rfl, hbb⟩
            have HO10 := Lib.hid (HO9.out.later hbb)
            clear hbb
            go_wp2_with fail
            try simp only [Act.put, List.setIfInBounds_toArray, List.set_cons_zero, List.set_cons_succ]
            refine takeA (i := 17) (v := ?_) rfl (by kernel_rfl) (by kernel_rfl) (by kernel_rfl) (fun _ _ _ h => h) (Or.inl ⟨by rfl, ?_⟩) ?_
            rotate_left 1
            focus (intro w; go_simp; try with_reducible rfl)
            try simp only [Act.put, List.setIfInBounds_toArray, List.set_cons_zero, List.set_cons_succ]
            refine takeA (i := 18) (v := ?_) rfl (by kernel_rfl) (by kernel_rfl) (by kernel_rfl) (fun _ _ _ h => h) (Or.inl ⟨by rfl, ?_⟩) ?_
            rotate_left 1
            focus (intro w; go_simp; try with_reducible rfl)
            try simp only [Act.put, List.setIfInBounds_toArray, List.set_cons_zero, List.set_cons_succ]
            refine wpAny_done (by kernel_rfl) ?_ _
            go_wp2_with fail
            exact ⟨⟨j + 1, ⟨es', cl', nx', at2⟩, Aa', Am', cm', by omega, by go_num, HO10.out, HOK.out⟩, by simp [intOf]; omega⟩
          · go_simp
            refine hK _ _ ?_
            clear hK K
            try simp only [Act.put, List.setIfInBounds_toArray, List.set_cons_zero, List.set_cons_succ]
            refine wpAny_ready (rs := [14]) (by kernel_rfl) (by simp) ?_
            refine consA rfl (fun K hK => ?_) AllReady.nil
            go_simp
            refine HCl.out.mono ?_
            rintro x wz ⟨rfl, rfl⟩
            go_wp2_with fail
            try simp only [Act.put, List.setIfInBounds_toArray, List.set_cons_zero, List.set_cons_succ]
            refine wpAny_ready (rs := [16]) (by kernel_rfl) (by simp) ?_
            refine consA rfl (fun K hK => ?_) AllReady.nil
            go_simp
            refine HRC.out.mono ?_
            rintro x wb ⟨rfl, hbb⟩
            have HO10 := Lib.hid (HO9.out.later hbb)
            clear hbb
            go_wp2_with fail
            try simp only [Act.put, List.setIfInBounds_toArray, List.set_cons_zero, List.set_cons_succ]
            refine takeA (i := 17) (v := ?_) rfl (by kernel_rfl) (by kernel_rfl) (by kernel_rfl) (fun _ _ _ h => h) (Or.inl ⟨by rfl, ?_⟩) ?_
            rotate_left 1
            focus (intro w; go_simp; try with_reducible rfl)
            try simp only [Act.put, List.setIfInBounds_toArray, List.set_cons_zero, List.set_cons_succ]
            refine takeA (i := 18) (v := ?_) rfl (by kernel_rfl) (by kernel_rfl) (by kernel_rfl) (fun _ _ _ h => h) (Or.inl ⟨by rfl, ?_⟩) ?_
            rotate_left 1
            focus (intro w; go_simp; try with_reducible rfl)
            try simp only [Act.put, List.setIfInBounds_toArray, List.set_cons_zero, List.set_cons_succ]
            refine wpAny_done (by kernel_rfl) ?_ _
            go_wp2_with fail
            exact ⟨⟨j + 1, ⟨es', cl', nx', at2⟩, Aa', Am', cm', by omega, by go_num, HO10.out, HOK.out⟩, by simp [intOf]; omega⟩
        · go_simp
          refine hK _ _ ?_
          clear hK K
          try simp only [Act.put, List.setIfInBounds_toArray, List.set_cons_zero, List.set_cons_succ]
          refine wpAny_ready (rs := [7]) (by kernel_rfl) (by simp) ?_
          refine consA rfl (fun K hK => ?_) AllReady.nil
          go_simp
          refine HNx.out.mono ?_
          rintro x wz ⟨rfl, rfl⟩
          go_wp2_with fail
          try simp only [Act.put, List.setIfInBounds_toArray, List.set_cons_zero, List.set_cons_succ]
          refine takeA (i := 10) (v := ?_) rfl (by kernel_rfl) (by kernel_rfl) (by kernel_rfl) (fun _ _ _ h => h) (Or.inl ⟨by rfl, ?_⟩) ?_
          rotate_left 1
          focus (intro w; go_simp; try with_reducible rfl)
          try simp only [Act.put, List.setIfInBounds_toArray, List.set_cons_zero, List.set_cons_succ]
          refine takeA (i := 11) (v := ?_) rfl (by kernel_rfl) (by kernel_rfl) (by kernel_rfl) (fun _ _ _ h => h) (Or.inl ⟨by rfl, ?_⟩) ?_
          rotate_left 1
          focus (intro w; go_simp; try with_reducible rfl)
          try simp only [Act.put, List.setIfInBounds_toArray, List.set_cons_zero, List.set_cons_succ]
          refine takeA (i := 12) (v := ?_) rfl (by kernel_rfl) (by kernel_rfl) (by kernel_rfl) (fun _ _ _ h => h) (Or.inl ⟨by rfl, ?_⟩) ?_
          rotate_left 1
          focus (intro w; go_simp; try with_reducible rfl)
          try simp only [Act.put, List.setIfInBounds_toArray, List.set_cons_zero, List.set_cons_succ]
          refine takeA (i := 13) (v := ?_) rfl (by kernel_rfl) (by kernel_rfl) (by kernel_rfl) (fun _ _ _ h => h) (Or.inl ⟨by rfl, ?_⟩) ?_
          rotate_left 1
          focus (intro w; go_simp; try with_reducible rfl)
          try simp only [Act.put, List.setIfInBounds_toArray, List.set_cons_zero, List.set_cons_succ]
          refine wpAny_ready (rs := [14, 15]) (by kernel_rfl) (by simp) ?_
          refine consA rfl (fun K hK => ?_) (consA rfl (fun K hK => ?_) AllReady.nil)
          · go_simp
            refine HCl.out.mono ?_
            rintro x wz ⟨rfl, rfl⟩
            go_wp2_with fail
            try simp only [Act.put, List.setIfInBounds_toArray, List.set_cons_zero, List.set_cons_succ]
            refine wpAny_ready (rs := [15]) (by kernel_rfl) (by simp) ?_
            refine consA rfl (fun K hK => ?_) AllReady.nil
            go_simp
            refine hK _ _ ?_
            clear hK K
            try simp only [Act.put, List.setIfInBounds_toArray, List.set_cons_zero, List.set_cons_succ]
            refine wpAny_ready (rs := [16]) (by kernel_rfl) (by simp) ?_
            refine consA rfl (fun K hK => ?_) AllReady.nil
            go_simp
            refine HRC.out.mono ?_
            rintro x wb ⟨rfl, hbb⟩
            have HO10 := Lib.hid (HO9.out.later hbb)
            clear hbb
            go_wp2_with fail
            try simp only [Act.put, List.setIfInBounds_toArray, List.set_cons_zero, List.set_cons_succ]
            refine takeA (i := 17) (v := ?_) rfl (by kernel_rfl) (by kernel_rfl) (by kernel_rfl) (fun _ _ _ h => h) (Or.inl ⟨by rfl, ?_⟩) ?_
            rotate_left 1
            focus (intro w; go_simp; try with_reducible rfl)
            try simp only [Act.put, List.setIfInBounds_toArray, List.set_cons_zero, List.set_cons_succ]
            refine takeA (i := 18) (v := ?_) rfl (by kernel_rfl) (by kernel_rfl) (by kernel_rfl) (fun _ _ _ h => h) (Or.inl ⟨by rfl, ?_⟩) ?_
            rotate_left 1
            focus (intro w; go_simp; try with_reducible rfl)
            try simp only [Act.put, List.setIfInBounds_toArray, List.set_cons_zero, List.set_cons_succ]
            refine wpAny_done (by kernel_rfl) ?_ _
            go_wp2_with fail
            exact ⟨⟨j + 1, ⟨es', cl', nx', at2⟩, Aa', Am', cm', by omega, by go_num, HO10.out, HOK.out⟩, by simp [intOf]; omega⟩
          · go_simp
            refine hK _ _ ?_
            clear hK K
            try simp only [Act.put, List.setIfInBounds_toArray, List.set_cons_zero, List.set_cons_succ]
            refine wpAny_ready (rs := [14]) (by kernel_rfl) (by simp) ?_
            refine consA rfl (fun K hK => ?_) AllReady.nil
            go_simp
            refine HCl.out.mono ?_
            rintro x wz ⟨rfl, rfl⟩
            go_wp2_with fail
            try simp only [Act.put, List.setIfInBounds_toArray, List.set_cons_zero, List.set_cons_succ]
            refine wpAny_ready (rs := [16]) (by kernel_rfl) (by simp) ?_
            refine consA rfl (fun K hK => ?_) AllReady.nil
            go_simp
            refine HRC.out.mono ?_
            rintro x wb ⟨rfl, hbb⟩
            have HO10 := Lib.hid (HO9.out.later hbb)
            clear hbb
            go_wp2_with fail
            try simp only [Act.put, List.setIfInBounds_toArray, List.set_cons_zero, List.set_cons_succ]
            refine takeA (i := 17) (v := ?_) rfl (by kernel_rfl) (by kernel_rfl) (by kernel_rfl) (fun _ _ _ h => h) (Or.inl ⟨by rfl, ?_⟩) ?_
            rotate_left 1
            focus (intro w; go_simp; try with_reducible rfl)
            try simp only [Act.put, List.setIfInBounds_toArray, List.set_cons_zero, List.set_cons_succ]
            refine takeA (i := 18) (v := ?_) rfl (by kernel_rfl) (by kernel_rfl) (by kernel_rfl) (fun _ _ _ h => h) (Or.inl ⟨by rfl, ?_⟩) ?_
            rotate_left 1
            focus (intro w; go_simp; try with_reducible rfl)
            try simp only [Act.put, List.setIfInBounds_toArray, List.set_cons_zero, List.set_cons_succ]
            refine wpAny_done (by kernel_rfl) ?_ _
            go_wp2_with fail
            exact ⟨⟨j + 1, ⟨es', cl', nx', at2⟩, Aa', Am', cm', by omega, by go_num, HO10.out, HOK.out⟩, by simp [intOf]; omega⟩
      · have hj' : j = ops.length := by omega
        subst hj'
        have HBW := Lib.hid htw.below
        have HEa : Hid (∀ W, Below wr.heap.size wr W → Calls Try.prog 15 #[.pointer (some ⟨w.heap.size, 0, none⟩)] W fun r w' => ∃ A2 cap2, r = .returned (.slice A2 s.es.length cap2) ∧ Below wr.heap.size wr w' ∧ EvsIn w' A2 cap2 s.es) := Lib.hid fun W hW => (events_any w.heap.size w.heap.size Aa s W (htw.later hW).ha (by have := hok.len; omega) hok.slim).mono fun r w' ⟨A2, cap2, h1, h2, h3⟩ => ⟨A2, cap2, h1, hW.trans (h2.mono hW.size), h3.read⟩
        have HSm : Hid (∀ W A2 cap2 A3 cap3, EvsIn W A2 cap2 s.es → EvsIn W A3 cap3 s.es → Calls Try.prog 17 #[.slice A2 s.es.length cap2, .slice A3 s.es.length cap3] W fun r w' => r = .returned (.bool true) ∧ Below W.heap.size W w') := Lib.hid fun W A2 cap2 A3 cap3 h1 h2 => (sevs_any s.es s.es A2 A3 cap2 cap3 W h1 h2).mono fun r w' h => ⟨by rw [h.1, evsSame_refl], h.2⟩
        have HBm : Hid (∀ W, Below wr.heap.size wr W → W.cell? ⟨w3.heap.size, 2, none⟩ = some (.slice Am s.es.length cm) ∧ EvsIn W Am cm s.es) := Lib.hid fun W hW => ⟨(cells3 (htw.later hW).box).2.2.1, (htw.later hW).hm.read (htw.later hW).below.size⟩
        have HVal := Lib.hid hok.valid
        have HEv := Lib.hid (HEa.out wr (Below.refl _ _))
        clear htw hok HT0 HS0 HSL HB3
        go_wp2_with fail
        refine HEv.out.mono ?_
        rintro x w9 ⟨A2, cap2, rfl, hb9, he9⟩
        have HB9 := Lib.hid hb9
        have HE9 := Lib.hid he9
        have lc9 := he9.le
        have lm9 := he9.cap_le
        simp only [maxLen] at lm9
        clear hb9 he9 HEv
        generalize hw0 : wr = wq at *
        clear hw0
        go_wp2_with fail
        go_loopw [74] (fun i wr => ∃ (p : Nat), p ≤ s.es.length ∧ i = .int .i64 p ∧ Below w9.heap.size w9 wr) (fun i _ => s.es.length - (intOf i).toNat)
        case atStart => exact ⟨0, by omega, rfl, Below.refl _ _⟩
        case round =>
          obtain ⟨p, hp, rfl, hbi⟩ := hrel
          by_cases hpl : p < s.es.length
          · obtain ⟨b', off', lo', hi', vk', vn', vf', vs', A1', m', c', rfl, hblt', hf', hv', hz', g0, g1, g2, g3, g4, g5, g6, g7, g8, g9, g10⟩ := (HE9.out.later hbi).get p hpl
            obtain ⟨W3, hW3⟩ : ∃ W3, W3 = wr.alloc (.cells (evCells s.es[p] vk' vn' vf' vs' A1' m' c') 45) := ⟨_, rfl⟩
            have hBa3 : Below wr.heap.size wr W3 := by rw [hW3]; exact (Below.refl _ _).alloc (Nat.le_refl _) _
            have hbx3 : EBox W3 wr.heap.size (evCells s.es[p] vk' vn' vf' vs' A1' m' c') := by rw [hW3]; exact heap_alloc_new wr _
            obtain ⟨v0, v1, v2, v3, v4, v5, v6, v7, v8, v9, v10⟩ := EBox.cells hbx3
            have HVe := Lib.hid (rvalid_ev s.es[p] (HVal.out p hpl) lo' hi' vk' vn' vf' vs' A1' m' c' W3 (hv'.later (hBa3.mono hz')) (Nat.le_trans hz' hBa3.size))
            have HI := Lib.hid (hbi.trans (hBa3.mono hbi.size))
            unfold evCells at hW3 HVe
            replace hW3 := Lib.hid hW3
            clear hf' hv' hbi hBa3 hbx3
            go_upto_region 17 with fail
            rw [← hW3.out]
            go_wp2_with fail
            refine HVe.out.mono ?_
            rintro x w11 ⟨rfl, hb11⟩
            have HI2 := Lib.hid (HI.out.trans (hb11.mono HI.out.size))
            clear hb11
            go_wp2_with fail
            exact ⟨⟨p + 1, by omega, by go_num, HI2.out⟩, by simp [intOf]; omega⟩
          · have hp' : p = s.es.length := by omega
            have HI := Lib.hid (HB9.out.trans (hbi.mono HB9.out.size))
            clear hbi
            have HAl : Hid (Calls Try.prog 9 #[] wr.drew fun r w' => r = .returned (.bool true) ∧ Below wq.heap.size wq w') := Lib.hid ((alive_any wr.drew).mono fun r w' h => ⟨h.1, HI.out.trans (((below_drew (Below.refl _ _)).trans h.2).mono HI.out.size)⟩)
            subst hp'
            go_upto_region 20 with fail
            refine wp_region_any (by kernel_rfl) ?_
            change wpAny _ _ _ _ _ _ _ (World.drew _)
            refine wpAny_ready (rs := [0]) (by kernel_rfl) (by simp) ?_
            refine consA rfl (fun K hK => ?_) AllReady.nil
            go_simp
            refine HAl.out.mono ?_
            rintro x v1 ⟨rfl, hb1⟩
            have HB1 := Lib.hid hb1
            obtain ⟨k1, -⟩ := HBm.out _ HB1.out
            clear hb1
            go_wp2_with fail
            try simp only [Act.put, List.setIfInBounds_toArray, List.set_cons_zero, List.set_cons_succ]
            refine takeA (i := 1) (v := ?_) rfl (by kernel_rfl) (by kernel_rfl) (by kernel_rfl) (fun _ _ _ h => h) (Or.inl ⟨by rfl, ?_⟩) ?_
            rotate_left 1
            focus (intro w; go_simp; try with_reducible rfl)
            try simp only [Act.put, List.setIfInBounds_toArray, List.set_cons_zero, List.set_cons_succ]
            refine takeA (i := 2) (v := ?_) rfl (by kernel_rfl) (by kernel_rfl) (by kernel_rfl) (fun _ _ _ h => h) (Or.inl ⟨by rfl, ?_⟩) ?_
            rotate_left 1
            focus (intro w; go_simp; try with_reducible rfl)
            try simp only [Act.put, List.setIfInBounds_toArray, List.set_cons_zero, List.set_cons_succ]
            refine takeA (i := 4) (v := ?_) rfl (by kernel_rfl) (by kernel_rfl) (by kernel_rfl) (fun _ _ _ h => h) (Or.inl ⟨by rfl, ?_⟩) ?_
            rotate_left 1
            focus (intro w; go_simp; try with_reducible rfl)
            try simp only [Act.put, List.setIfInBounds_toArray, List.set_cons_zero, List.set_cons_succ]
            refine wpAny_ready (rs := [3, 5]) (by kernel_rfl) (by simp) ?_
            refine consA rfl (fun K hK => ?_) (consA rfl (fun K hK => ?_) AllReady.nil)
            · go_simp
              refine (HEa.out _ HB1.out).mono ?_
              rintro x v2 ⟨A3, c3, rfl, hb2, he2⟩
              have HB2 := Lib.hid hb2
              have HE2 := Lib.hid he2
              have lc2 := he2.le
              have lm2 := he2.cap_le
              obtain ⟨k2, -⟩ := HBm.out _ HB2.out
              clear hb2 he2
              go_wp2_with fail
              try simp only [Act.put, List.setIfInBounds_toArray, List.set_cons_zero, List.set_cons_succ]
              refine wpAny_ready (rs := [5]) (by kernel_rfl) (by simp) ?_
              refine consA rfl (fun K hK => ?_) AllReady.nil
              go_simp
              refine hK _ _ ?_
              clear hK K
              try simp only [Act.put, List.setIfInBounds_toArray, List.set_cons_zero, List.set_cons_succ]
              refine wpAny_ready (rs := [6]) (by kernel_rfl) (by simp) ?_
              refine consA rfl (fun K hK => ?_) AllReady.nil
              go_simp
              refine (HSm.out _ _ _ _ _ HE2.out (HBm.out _ HB2.out).2).mono ?_
              rintro x v3 ⟨rfl, hb3⟩
              have HB3 := Lib.hid (HB2.out.trans (hb3.mono HB2.out.size))
              clear hb3
              go_wp2_with fail
              try simp only [Act.put, List.setIfInBounds_toArray, List.set_cons_zero, List.set_cons_succ]
              refine takeA (i := 7) (v := ?_) rfl (by kernel_rfl) (by kernel_rfl) (by kernel_rfl) (fun _ _ _ h => h) (Or.inl ⟨by rfl, ?_⟩) ?_
              rotate_left 1
              focus (intro w; go_simp; try with_reducible rfl)
              try simp only [Act.put, List.setIfInBounds_toArray, List.set_cons_zero, List.set_cons_succ]
              refine takeA (i := 8) (v := ?_) rfl (by kernel_rfl) (by kernel_rfl) (by kernel_rfl) (fun _ _ _ h => h) (Or.inl ⟨by rfl, ?_⟩) ?_
              rotate_left 1
              focus (intro w; go_simp; try with_reducible rfl)
              try simp only [Act.put, List.setIfInBounds_toArray, List.set_cons_zero, List.set_cons_succ]
              refine wpAny_done (by kernel_rfl) ?_ _
              go_wp2_with fail
              go_ret
              exact ⟨rfl, HBW.out.trans (HB3.out.mono HBW.out.size)⟩
            · go_simp
              refine hK _ _ ?_
              clear hK K
              try simp only [Act.put, List.setIfInBounds_toArray, List.set_cons_zero, List.set_cons_succ]
              refine wpAny_ready (rs := [3]) (by kernel_rfl) (by simp) ?_
              refine consA rfl (fun K hK => ?_) AllReady.nil
              go_simp
              refine (HEa.out _ HB1.out).mono ?_
              rintro x v2 ⟨A3, c3, rfl, hb2, he2⟩
              have HB2 := Lib.hid hb2
              have HE2 := Lib.hid he2
              have lc2 := he2.le
              have lm2 := he2.cap_le
              obtain ⟨k2, -⟩ := HBm.out _ HB2.out
              clear hb2 he2
              go_wp2_with fail
              try simp only [Act.put, List.setIfInBounds_toArray, List.set_cons_zero, List.set_cons_succ]
              refine wpAny_ready (rs := [6]) (by kernel_rfl) (by simp) ?_
              refine consA rfl (fun K hK => ?_) AllReady.nil
              go_simp
              refine (HSm.out _ _ _ _ _ HE2.out (HBm.out _ HB2.out).2).mono ?_
              rintro x v3 ⟨rfl, hb3⟩
              have HB3 := Lib.hid (HB2.out.trans (hb3.mono HB2.out.size))
              clear hb3
              go_wp2_with fail
              try simp only [Act.put, List.setIfInBounds_toArray, List.set_cons_zero, List.set_cons_succ]
              refine takeA (i := 7) (v := ?_) rfl (by kernel_rfl) (by kernel_rfl) (by kernel_rfl) (fun _ _ _ h => h) (Or.inl ⟨by rfl, ?_⟩) ?_
              rotate_left 1
              focus (intro w; go_simp; try with_reducible rfl)
              try simp only [Act.put, List.setIfInBounds_toArray, List.set_cons_zero, List.set_cons_succ]
              refine takeA (i := 8) (v := ?_) rfl (by kernel_rfl) (by kernel_rfl) (by kernel_rfl) (fun _ _ _ h => h) (Or.inl ⟨by rfl, ?_⟩) ?_
              rotate_left 1
              focus (intro w; go_simp; try with_reducible rfl)
              try simp only [Act.put, List.setIfInBounds_toArray, List.set_cons_zero, List.set_cons_succ]
              refine wpAny_done (by kernel_rfl) ?_ _
              go_wp2_with fail
              go_ret
              exact ⟨rfl, HBW.out.trans (HB3.out.mono HBW.out.size)⟩
end Cm
end Go.Proofs.Ytpnepnhajpmccaa
