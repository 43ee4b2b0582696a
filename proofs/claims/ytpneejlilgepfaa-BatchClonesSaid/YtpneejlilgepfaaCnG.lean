/- Contracts: slices.DeleteFunc of events; batch.Commands: the walks. -/
import Derived.Test.YtpneejlilgepfaaCnF
namespace Go.Proofs.Ytpneejlilgepfaa
open Go.RowKit
set_option linter.unusedVariables false
set_option linter.unusedSimpArgs false
namespace Cn
open Nm (bitsW ret_int ret_bool)
open Vt (VT Rep BoxAt below_drew Cloned put5 KidsAt HeadOk)
open Ev (EV FieldsOk evCells vCells EBox ERep zeroT take_drop cons_drop)
open Cm (rowOf EvsIn EvsAt EvNew evsSame evSame)

def thin (p : EV → Bool) (es : List EV) : List EV := es.filter (fun e => !p e)
theorem thin_yes {p : EV → Bool} {es : List EV} {j : Nat} (h : j < es.length) (ho : p es[j] = true) : thin p (es.take (j + 1)) = thin p (es.take j) := by
  unfold thin; rw [List.take_succ_eq_append_getElem h, List.filter_append]; simp [ho]
theorem thin_no {p : EV → Bool} {es : List EV} {j : Nat} (h : j < es.length) (ho : p es[j] = false) : thin p (es.take (j + 1)) = thin p (es.take j) ++ [es[j]] := by
  unfold thin; rw [List.take_succ_eq_append_getElem h, List.filter_append]; simp [ho]
theorem thin_all {p : EV → Bool} {es : List EV} (h : ∀ m (h : m < es.length), p es[m] = false) : thin p es = es := by
  unfold thin
  rw [List.filter_eq_self]
  intro e he
  obtain ⟨m, hm, rfl⟩ := List.getElem_of_mem he
  simp [h m hm]
theorem thin_first {p : EV → Bool} {es : List EV} {n : Nat} (hn : n < es.length) (hp : p es[n] = true) (h : ∀ m (h : m < es.length), m < n → p es[m] = false) : thin p (es.take (n + 1)) = es.take n := by
  rw [thin_yes hn hp]
  exact thin_all fun m hm => by
    rw [List.length_take] at hm
    rw [List.getElem_take]
    exact h m (by omega) (by omega)

set_option maxRecDepth 100000 in
set_option maxHeartbeats 4000000 in
theorem dfunc_any (g : Nat) (hcall : ∀ args w, (callFunc g args).run Try.prog w = .ok (.enter g args) w) (p : EV → Bool) (es : List EV) (hG : Asks g p es) (base : Nat) (A : Option Addr) (cap : Nat) (w : World) (h : EvsAt w base A cap es.length es) (hbase : base ≤ w.heap.size) :
    Calls Try.prog 18 #[.slice A es.length cap, .func (.func g) #[] #[]] w fun r w' => ∃ n, r = .returned (.slice A n cap) ∧ EvsAt w' base A cap n (thin p es) ∧ Below base w w' := by
  have HE := Lib.hid h
  have HI := Lib.hid (ifunc_any g hcall p es hG A cap w h.read)
  have hle := h.read.le
  have hc := h.read.cap_le
  simp only [maxLen] at hc
  have HG := Lib.hid hG
  clear h hG
  go_enter Try.func18, Try.ntmps18
  go_wp2_with fail
  refine HI.out.mono ?_
  rintro x w1 ⟨i, rfl, hfound, hb1⟩
  rcases hfound with ⟨rfl, hno⟩ | ⟨n, rfl, hn, hp, hno⟩
  · have HNO := Lib.hid hno
    have HB1 := Lib.hid hb1
    clear hno hb1
    go_wp2_with fail
    go_ret
    exact ⟨es.length, rfl, by rw [thin_all HNO.out]; exact HE.out.later HB1.out, HB1.out.mono hbase⟩
  · obtain ⟨r, rfl⟩ : ∃ r, A = some ⟨r, 0, none⟩ := by
      obtain ⟨-, xs, h1, -⟩ := HE.out
      rcases h1.2 with ⟨h2, h3⟩ | ⟨r', cp, cur, q1, -⟩
      · omega
      · injection q1 with q1; exact ⟨r', q1⟩
    have HD1 : Hid (DRow w1 base r cap (thin p (es.take (n + 1))) (es.drop (n + 1)) (n + 1)) := Lib.hid (by
      rw [thin_first hn hp hno]
      exact DRow.start (HE.out.later hb1) (by omega) (by omega) n (by omega))
    have hL1 : (thin p (es.take (n + 1))).length = n := by rw [thin_first hn hp hno, List.length_take]; omega
    have HB1 : Hid (Below base w w1) := Lib.hid (hb1.mono hbase)
    have hz1 := hb1.size
    have HL1 := Lib.hid hL1
    have hn1 : ((n : Int) == -1) = false := by simp
    have hes : (es.length : Int) ≤ 9223372036854775807 := by omega
    clear hno hb1 hp HI hL1
    go_wp2_with fail
    go_loopw [5, 6] (fun i o wr => ∃ (j m : Nat), j ≤ es.length ∧ n + 1 ≤ j ∧ m < j ∧ o = .int .i64 j ∧ i = .int .i64 m ∧ (thin p (es.take j)).length = m ∧ DRow wr base r cap (thin p (es.take j)) (es.drop j) j ∧ w1.heap.size ≤ wr.heap.size ∧ Below base w wr) (fun _ i _ => es.length - (intOf i).toNat)
    case atStart => exact ⟨n + 1, n, by omega, by omega, by omega, by go_num, rfl, HL1.out, HD1.out, Nat.le_refl _, HB1.out⟩
    case round =>
      obtain ⟨j, m, hj, hnj, hmj, rfl, rfl, hlen, hd, hz, hb⟩ := hrel
      by_cases hlt : j < es.length
      · have hpos : 0 < (es.drop j).length := by rw [List.length_drop]; omega
        have h0 : (es.drop j)[0] = es[j] := by rw [List.getElem_drop]; simp
        obtain ⟨lo, hi, vk, vn, vf, vs, A', m', c, k0, kf, kv, kz, kr, kfr, kc, kall, kfz⟩ := hd.cells hpos
        rw [h0] at kf kv kfr kc
        have d0 := kc 0 (by omega); have d1 := kc 1 (by omega); have d2 := kc 2 (by omega); have d3 := kc 3 (by omega); have d4 := kc 4 (by omega); have d5 := kc 5 (by omega)
        have d6 := kc 6 (by omega); have d7 := kc 7 (by omega); have d8 := kc 8 (by omega); have d9 := kc 9 (by omega); have d10 := kc 10 (by omega)
        simp only [evCells, List.getElem?_toArray, List.getElem?_cons_zero, List.getElem?_cons_succ, Nat.add_zero] at d0 d1 d2 d3 d4 d5 d6 d7 d8 d9 d10
        obtain ⟨W1, hW1⟩ : ∃ W1, W1 = wr.alloc (.cells (evCells es[j] vk vn vf vs A' m' c) 35) := ⟨_, rfl⟩
        have hb1 : Below wr.heap.size wr W1 := by rw [hW1]; exact (Below.refl _ _).alloc (Nat.le_refl _) _
        have hx1 : EBox W1 wr.heap.size (evCells es[j] vk vn vf vs A' m' c) := by rw [hW1]; exact box_ev ..
        obtain ⟨g0, g1, g2, g3, g4, g5, g6, g7, g8, g9, g10⟩ := EBox.cells hx1
        have HC := Lib.hid (HG.out es[j] (List.getElem_mem hlt) lo hi vk vn vf vs A' m' c W1 kf (kv.later (hb1.mono kz)) (Nat.le_trans kz hb1.size))
        have hdr : r < wr.heap.size := hd.lt
        have HX1 := Lib.hid hx1; have HB1' := Lib.hid hb1; have HD := Lib.hid hd; have HB := Lib.hid hb; have HLEN := Lib.hid hlen
        have KF := Lib.hid kf; have KV := Lib.hid kv; have KFR := Lib.hid kfr; have KALL := Lib.hid kall; have KFZ := Lib.hid kfz
        unfold evCells at HC hW1
        replace hW1 := Lib.hid hW1
        clear kc kf kv kfr kall kfz hx1 hb1 hd hb hlen h0
        go_upto_region 8 with fail
        rw [← hW1.out]
        clear d0 d1 d2 d3 d4 d5 d6 d7 d8 d9 d10
        go_wp2_with fail
        refine HC.out.mono ?_
        rintro x w2 ⟨rfl, hb2⟩
        have HB2 : Hid (Below wr.heap.size wr w2) := Lib.hid (HB1'.out.trans (hb2.mono HB1'.out.size))
        have hx2 := HX1.out.later hb2 (by have := HX1.out.lt; omega)
        clear g0 g1 g2 g3 g4 g5 g6 g7 g8 g9 g10
        obtain ⟨g0, g1, g2, g3, g4, g5, g6, g7, g8, g9, g10⟩ := EBox.cells hx2
        have hdrop : (es.drop j).drop 1 = es.drop (j + 1) := by rw [List.drop_drop]
        have hwr : base ≤ wr.heap.size := by have := HB.out.size; omega
        have hz2 : wr.heap.size ≤ w2.heap.size := HB2.out.size
        have HDR := Lib.hid hdrop
        clear hb2 hx2 hdrop
        cases hp : p es[j] with
        | true =>
          have HP := Lib.hid hp; clear hp
          go_wp2_with fail
          go_roundw
          case rel => exact ⟨j + 1, m, by omega, by omega, by omega, by go_num, rfl, by rw [thin_yes hlt HP.out]; exact HLEN.out, by rw [thin_yes hlt HP.out, ← HDR.out]; exact (HD.out.later HB2.out).dropOne hpos, by omega, HB.out.trans (HB2.out.mono hwr)⟩
          case measure => simp [intOf]; omega
        | false =>
          have HP := Lib.hid hp; clear hp
          obtain ⟨W3, hW3⟩ : ∃ W3, W3 = w2.setCells r (m * 11) (evCells es[j] vk vn vf vs A' m' c).toList := ⟨_, rfl⟩
          have hb3 : Below base w W3 := by rw [hW3]; exact setCells_below _ _ _ _ _ (HB.out.trans (HB2.out.mono hwr)) HD.out.ge
          have hz3 : W3.heap.size = w2.heap.size := by rw [hW3]; exact (setCells_far _ _ _).1
          have hd3 : DRow W3 base r cap (thin p (es.take j) ++ [es[j]]) (es.drop (j + 1)) (j + 1) := by
            have hd2 := HD.out.later HB2.out
            have h0 : (es.drop j)[0] = es[j] := by rw [List.getElem_drop]; simp
            have := hd2.keepOne hpos (lo := lo) (hi' := hi) (vk := vk) (vn := vn) (vf := vf) (vs := vs) (A := A') (m := m') (c := c) k0 (by rw [h0]; exact KF.out) (by rw [h0]; exact KV.out.later (HB2.out.mono kz)) (by omega) kr (by
              rw [h0]
              intro hp b off hA o
              have hin := Cm.rep_row KV.out hp b off hA
              exact (Cm.frozen_of_block (HB2.out.block b (by omega)) o).trans (KFR.out hp b off hA o))
            rw [h0, HDR.out, HLEN.out] at this
            rw [hW3]
            exact this
          have hfz2 : ∀ o, w2.frozen? ⟨r, o, none⟩ = false := fun o => (Cm.frozen_of_block (HB2.out.block r hdr) o).trans (KFZ.out o)
          have hmc : m * 11 + 11 ≤ cap * 11 := by omega
          have hall2 : ∀ q, q < 11 → ∃ u, w2.cell? ⟨r, m * 11 + q, none⟩ = some u := fun q hq => by
            obtain ⟨u, hu⟩ := KALL.out (m * 11 + q) (by omega)
            exact ⟨u, (HB2.out.cell (p := ⟨r, m * 11 + q, none⟩) hdr).trans hu⟩
          obtain ⟨u0, v0⟩ := hall2 0 (by omega); obtain ⟨u1, v1⟩ := hall2 1 (by omega); obtain ⟨u2, v2⟩ := hall2 2 (by omega); obtain ⟨u3, v3⟩ := hall2 3 (by omega); obtain ⟨u4, v4⟩ := hall2 4 (by omega); obtain ⟨u5, v5⟩ := hall2 5 (by omega)
          obtain ⟨u6, v6⟩ := hall2 6 (by omega); obtain ⟨u7, v7⟩ := hall2 7 (by omega); obtain ⟨u8, v8⟩ := hall2 8 (by omega); obtain ⟨u9, v9⟩ := hall2 9 (by omega); obtain ⟨u10, v10⟩ := hall2 10 (by omega)
          have f0 := hfz2 (m * 11); have f1 := hfz2 (m * 11 + 1); have f2 := hfz2 (m * 11 + 2); have f3 := hfz2 (m * 11 + 3); have f4 := hfz2 (m * 11 + 4); have f5 := hfz2 (m * 11 + 5)
          have f6 := hfz2 (m * 11 + 6); have f7 := hfz2 (m * 11 + 7); have f8 := hfz2 (m * 11 + 8); have f9 := hfz2 (m * 11 + 9); have f10 := hfz2 (m * 11 + 10)
          simp only [Nat.add_zero] at v0
          have HD3 := Lib.hid hd3; have HB3 := Lib.hid hb3; have HZ3 := Lib.hid hz3
          have hml : m < es.length := by omega
          simp only [evCells, World.setCells, Nat.add_assoc, Nat.reduceAdd] at hW3
          replace hW3 := Lib.hid hW3
          clear hd3 hb3 hz3 hall2 hfz2
          go_upto_region 10 with fail
          rw [← hW3.out]
          clear v0 v1 v2 v3 v4 v5 v6 v7 v8 v9 v10 f0 f1 f2 f3 f4 f5 f6 f7 f8 f9 f10 g0 g1 g2 g3 g4 g5 g6 g7 g8 g9 g10
          go_wp2_with fail
          go_roundw
          case rel => exact ⟨j + 1, m + 1, by omega, by omega, by omega, by go_num, by go_num, by rw [thin_no hlt HP.out, List.length_append, HLEN.out]; rfl, by rw [thin_no hlt HP.out]; exact HD3.out, by have := HZ3.out; omega, HB3.out⟩
          case measure => simp [intOf]; omega
      · have hj' : j = es.length := by omega
        subst hj'
        rw [List.take_length] at hlen hd
        have hml : m < es.length := hmj
        have hfz : ∀ o, wr.frozen? ⟨r, o, none⟩ = false := by
          obtain ⟨cur, q1, -⟩ := hd.blk
          intro o; simp [World.frozen?, q1]
        have hall : ∀ o, o < cap * 11 → ∃ u, wr.cell? ⟨r, o, none⟩ = some u := by
          obtain ⟨cur, q1, q2, -⟩ := hd.blk
          intro o ho
          exact ⟨cur[o]'(by omega), by simp [World.cell?, q1, Array.getElem?_eq_getElem (show o < cur.size by omega)]⟩
        have hrun : ∀ ty, ∃ vs : List Value, vs.length = (es.length - m) * 11 ∧ (Builtin.clear_ #[23] ty #[.slice (some ⟨r, m * 11, none⟩) (es.length - m) (cap - m)]).run Try.prog wr = .ok (.tuple #[]) (wr.setCells r (m * 11) vs) := fun ty =>
          run_clear_events wr ty r (m * 11) (es.length - m) (cap - m) (by omega) (fun q hq => hall _ (by omega)) hfz
        obtain ⟨vs, hvl, hrun⟩ := hrun 0
        have HFIN : Hid (EvsAt (wr.setCells r (m * 11) vs) base (some ⟨r, 0, none⟩) cap m (thin p es)) := Lib.hid (by
          have := hd.cleared vs (by rw [hlen, hvl]; omega)
          rwa [hlen] at this)
        have HBF : Hid (Below base w (wr.setCells r (m * 11) vs)) := Lib.hid (setCells_below _ _ _ _ _ hb hd.ge)
        have hmc : m ≤ cap := by omega
        have hmc2 : ¬ (cap = m) := by omega
        have hsub : ((es.length : Int) - m) = ((es.length - m : Nat) : Int) := by omega
        clear hd hb hlen hfz hall
        go_wp2_with fail
        go_ret
        exact ⟨m, rfl, HFIN.out, HBF.out⟩

set_option maxRecDepth 100000 in
theorem bcmds_any (es : List EV) (hl40 : es.length ≤ 1099511627775) (hS : ∀ i (h : i < es.length), es[i].v.Slim 900) (f : ByteArray) (at' : Nat) (A : Option Addr) (cap : Nat) (w : World) (h : EvsIn w A cap es) :
    Calls Try.prog 8 #[.agg #[.string f, .int .u64 at', .slice A es.length cap]] w fun r w' => ∃ A2 cap2 n, r = .returned (.slice A2 n cap2) ∧ Below w.heap.size w w' ∧ EvsAt w' w.heap.size A2 cap2 n (cmds es) := by
  obtain ⟨W0, hW0⟩ : ∃ W0, W0 = w.alloc (.cells #[.string f, .int .u64 at', .slice A es.length cap] 25) := ⟨_, rfl⟩
  have hx0 : BB W0 w.heap.size f at' A es.length cap := by rw [hW0]; exact heap_alloc_new w _
  have hbw : Below w.heap.size w W0 := by rw [hW0]; exact ((Below.refl _ _).alloc (Nat.le_refl _) _)
  obtain ⟨c0, c1, c2, -⟩ := hx0.cells
  have HBW := Lib.hid hbw
  have HM := Lib.hid (mapped_any es hl40 hS A cap W0 (h.later hbw))
  clear hx0 hbw h hS
  replace hW0 := Lib.hid hW0
  go_enter Try.func8, Try.ntmps8
  go_upto_region 1 with fail
  rw [← hW0.out]
  go_wp2_with fail
  refine HM.out.mono ?_
  rintro x w1 ⟨A2, cap2, rfl, hb1, hev⟩
  have HD := Lib.hid (dfunc_any 19 call_outside outsideE es (asks_outside es) W0.heap.size A2 cap2 w1 hev hb1.size)
  have HB1 := Lib.hid (HBW.out.trans (hb1.mono HBW.out.size))
  have hz := HBW.out.size
  clear hb1 hev c0 c1 c2
  go_wp2_with fail
  refine HD.out.mono ?_
  rintro x w2 ⟨n, rfl, hev, hb2⟩
  have HE := Lib.hid hev
  have HB2 := Lib.hid (HB1.out.trans (hb2.mono hz))
  clear hev hb2
  go_wp2_with fail
  go_ret
  exact ⟨A2, cap2, n, rfl, HB2.out, evs_base HE.out hz⟩
end Cn
end Go.Proofs.Ytpneejlilgepfaa
