/- value.read of a list; value.read and value.Read of whatever bytes. -/
/- value.read and value.Read of whatever bytes. -/
/- The reference's read of a value: nothing there, and all kinds but lists. -/
import Derived.Test.YtcbddebmmaflgaaGreatDoorMsaw
import Derived.Test.YtcbddebmmaflgaaGreatDoorMsav
namespace Go.Proofs.YtcbddebmmaflgaaGreatDoor
open Go.RowKit
set_option linter.unusedVariables false
set_option linter.unusedSimpArgs false
namespace Rd
open _root_.Go.Proofs.YtcbddebmmaflgaaGreatDoor.Nm (ret_int ret_bool bitsW ofW okW)
open Vt (VT Rep BoxAt below_drew put5 KidsAt HeadOk kindV of_any kv0 kv1 kv2 kv3 kv4)
open Cm (OnlyAt rowOf)
open Cn (BRd brd_own VsAt VNew)
attribute [local go_sem] Vt.run_store_float

set_option maxRecDepth 100000 in
set_option maxHeartbeats 16000000 in
theorem rw_list (left : Nat) (g : Nat) (s : St) (w : World) (h : RS w g s) (hq : (rUint s).1.2 = false ∧ (rUint s).2 = 4) (hL : left ≤ 1000)
    (IH : Hid (∀ (g : Nat) (s : St) (w : World), RS w g s → Calls Tryz.prog 79 #[.pointer (some ⟨g, 0, none⟩), .int .i64 (left : Nat)] w (VRead left s w g))) :
    Calls Tryz.prog 79 #[.pointer (some ⟨g, 0, none⟩), .int .i64 (left + 1 : Nat)] w (VRead (left + 1) s w g) := by
  have HP : Hid (pv (left + 1) s = match rep (pv left) (rUint (rUint s).1).2 (rUint (rUint s).1).1 with | none => none | some (s3, ts) => if s3.2 = true then none else some (s3, .mk 4 0 0 ⟨#[]⟩ ts)) := Lib.hid (by rw [pv_eq, if_neg (by rw [hq.1, hq.2]; simp), if_neg (by rw [hq.2]; decide), if_neg (by rw [hq.2]; decide), if_neg (by rw [hq.2]; decide), if_neg (by rw [hq.2]; decide)] <;> rfl)
  have hg := h.lt
  obtain ⟨W0, hW0⟩ : ∃ W0, W0 = w.alloc (.cells #[.int .i64 0, .int .i64 0, .float .f64 0, .string ⟨#[]⟩, .slice none 0 0] 30) := ⟨_, rfl⟩
  have hx0 : BoxAt W0 w.heap.size 0 0 0 ⟨#[]⟩ none 0 0 := by rw [hW0]; exact BoxAt.new ..
  have hr0 : RS W0 g s := by rw [hW0]; exact rs_alloc h _
  have ho0 : OnlyAt w W0 g none := by rw [hW0]; exact only_alloc (OnlyAt.of_below (Below.refl _ _)) _
  have HU := Lib.hid (uint_any g s W0 hr0)
  have HX0 := Lib.hid hx0
  have HO0 := Lib.hid ho0
  have HBY := Lib.hid (rUint_byt h.2.1 h.2.2)
  clear h hr0 hx0 ho0
  have HQ := Lib.hid hq
  clear hq
  generalize rUint s = q at *
  obtain ⟨s1, k⟩ := q
  simp only at *
  have k1 : decide ((k : Int) > 4) = false := decide_eq_false (by have := HQ.out.2; omega)
  have k2 : decide ((4 : Int) < (k : Int)) = false := decide_eq_false (by have := HQ.out.2; omega)
  have k3 : decide (4 < k) = false := decide_eq_false (by have := HQ.out.2; omega)
  have hwk : IntKind.i64.wrap (k : Int) = (k : Int) := by have := HQ.out.2; rw [IntKind.wrap_i64]; omega
  have HKV : Hid (kindV (k : Int) = .iface 143 (.agg #[])) := Lib.hid (by rw [HQ.out.2]; exact kv4)
  have hk0 : (k : Int) = 4 := by have := HQ.out.2; omega
  have HK0 := Lib.hid hk0
  clear hk0
  have ta0 := Vt.ta_list_integer
  have ta1 := Vt.ta_list_float
  have ta2 := Vt.ta_list_text
  have ta3 := Vt.ta_list_list
  have HI := Lib.hid fun W (hW : RS W g s1) => uint_any g s1 W hW
  have HBZ := Lib.hid (rUint_byt HBY.out.1 HBY.out.2)
  have hnn := rUint_val HBY.out.1
  generalize rUint s1 = z at *
  obtain ⟨sz, nn⟩ := z
  simp only at *
  replace hW0 := Lib.hid hW0
  go_enter Tryz.func79, Tryz.ntmps79
  go_upto_region 1 with fail
  rw [← hW0.out]
  go_wp2_with fail
  refine HU.out.mono ?_
  rintro e w1 ⟨rfl, hr1, ho1⟩
  have hx1 := box_only HX0.out ho1 (by omega)
  have hlt1 := hx1.lt
  have HX1 := Lib.hid hx1
  have HR1 := Lib.hid hr1
  have HO1 := Lib.hid (HO0.out.trans ho1)
  clear hx1 hr1 ho1
  go_wp2_with fail
  refine (rs_ok HR1.out).mono ?_
  rintro e w2 ⟨rfl, rfl⟩
  rw [HQ.out.1]
  obtain ⟨W2, hW2⟩ : ∃ W2, W2 = w1.alloc (.cells #[.int .i64 (k : Int), .int .i64 0, .float .f64 0, .string ⟨#[]⟩, .slice none 0 0] 30) := ⟨_, rfl⟩
  have hv2 : BoxAt W2 w1.heap.size k 0 0 ⟨#[]⟩ none 0 0 := by rw [hW2]; exact BoxAt.new ..
  have ho2 : OnlyAt w1 W2 g none := by rw [hW2]; exact only_alloc (OnlyAt.of_below (Below.refl _ _)) _
  have hr2 : RS W2 g s1 := by rw [hW2]; exact rs_alloc HR1.out _
  have hx2 := box_only HX1.out ho2 (by omega)
  have hlt2 := hv2.lt
  obtain ⟨b1, hb1⟩ : ∃ b1, b1 = w1.heap.size := ⟨_, rfl⟩
  rw [← hb1] at hv2 hlt1 hlt2
  have HV2 := Lib.hid hv2
  have HX2 := Lib.hid hx2
  have HR2 := Lib.hid hr2
  have HO2 := Lib.hid (HO1.out.trans ho2)
  clear ho2 hr2 hx2 hv2
  replace hW2 := Lib.hid hW2
  have HB1 := Lib.hid hb1
  clear hb1
  go_upto_region 5 with fail
  rw [← hW2.out, ← HB1.out]
  obtain ⟨d0, d1, d2, d3, d4⟩ := HV2.out.cells
  go_wp2_with fail
  refine (of_any (k : Int) W2).mono ?_
  rintro e w3 ⟨rfl, rfl⟩
  rw [HKV.out]
  clear d0 d1 d2 d3 d4
  go_wp2_with fail
  refine (HI.out _ HR2.out).mono ?_
  rintro e w3 ⟨rfl, hr3, ho3⟩
  have hv3 := box_only HV2.out ho3 (by omega)
  have hx3 := box_only HX2.out ho3 (by omega)
  have hlt3 := hv3.lt
  have HV3 := Lib.hid hv3
  have HX3 := Lib.hid hx3
  have HR3 := Lib.hid hr3
  have HO3 := Lib.hid (HO2.out.trans ho3)
  clear hv3 hx3 hr3 ho3
  obtain ⟨i0, hi0, hz0, hz1, hz2⟩ := info_parts Vt.Tryz.infoV
  have I1 := Lib.hid hi0; have I2 := Lib.hid hz0; have I3 := Lib.hid hz1; have I4 := Lib.hid hz2
  clear hi0 hz0 hz1 hz2
  have hwl : wrap64 (left : Int) = (left : Int) := by first | (unfold wrap64; omega) | (simp only [wrap64]; omega) | exact IntKind.wrap_i64 _ ▸ by omega
  have hpos : decide (((left + 1 : Nat) : Int) > 0) = true := decide_eq_true (by omega)
  have hpos2 : decide ((0 : Int) < ((left + 1 : Nat) : Int)) = true := decide_eq_true (by omega)
  have hpos3 : decide ((0 : Int) < (left : Int) + 1) = true := decide_eq_true (by omega)
  have hpos4 : (0 : Int) < (left : Int) + 1 := by omega
  go_wp2_with fail
  go_loopw [8, 13] (LInv left w g b1 k nn sz) (fun okv iv _ => match okv with | .bool true => nn + 1 - (intOf iv).toNat | _ => 0)
  case atStart => exact ⟨true, 0, 0, none, 0, sz, rfl, rfl, Nat.zero_le _, HX3.out, HV3.out, HR3.out, HO3.out, fun _ => ⟨rfl, [], Cn.vs_nil _ _, by simp, by have := HBZ.out.2; omega⟩, fun h => Bool.noConfusion h⟩
  case round =>
    obtain ⟨okb0, j, n, A, cap, sj, rfl, rfl, hj, hx, hv, hr, ho, hT, hF⟩ := hrel
    cases okb0 with
    | false =>
      have HN : pv (left + 1) s = none := by rw [HP.out, hF rfl]
      have HX := Lib.hid hx
      have HR := Lib.hid hr
      have HO := Lib.hid ho
      have hltx := hx.lt
      clear hT hF hx hr ho hv
      obtain ⟨r0, r1, r2, r3, r4⟩ := HX.out.cells
      have f0 := Vt.box_free HX.out 0
      have f1 := Vt.box_free HX.out 1
      have f2 := Vt.box_free HX.out 2
      have f3 := Vt.box_free HX.out 3
      have f4 := Vt.box_free HX.out 4
      go_wp2_with fail
      refine bodyPost_ret (v := .tuple #[.agg #[.int .i64 0, .int .i64 0, .float .f64 0, .string ⟨#[]⟩, .slice none 0 0], .bool false]) (by simp [results, Tryz.results79, go_sem, r0, r1, r2, r3, r4]) rfl ?_
      exact vread_no HN (rs_put5 HR.out (by omega) _ _ _ _ _) (only_put5 HO.out (Nat.le_refl _) _ _ _ _ _)
    | true =>
      obtain ⟨hnj, acc, hvs, hrep, hlen40⟩ := hT rfl
      subst hnj
      clear hT hF
      have HVS := Lib.hid hvs
      have HREPE := Lib.hid hrep
      have HX := Lib.hid hx
      have HV := Lib.hid hv
      have HR := Lib.hid hr
      have HO := Lib.hid ho
      have hltv := hv.lt
      have hgl := HR.out.lt
      clear hvs hrep hx hv hr ho
      by_cases hlt : n < nn
      · have HSJ := Lib.hid HR.out.2.1
        obtain ⟨W2x, hW2x⟩ : ∃ W, W = wr.alloc (.cells #[.int .i64 0, .int .i64 0, .float .f64 0, .string ⟨#[]⟩, .slice none 0 0] 30) := ⟨_, rfl⟩
        obtain ⟨bx, hbx⟩ : ∃ bx, bx = wr.heap.size := ⟨_, rfl⟩
        have hz2 : W2x.heap.size = bx + 1 := by rw [hW2x, hbx]; simp
        have hxb : BoxAt W2x bx 0 0 0 ⟨#[]⟩ none 0 0 := by rw [hW2x, hbx]; exact BoxAt.new ..
        have ho2 : OnlyAt wr W2x g none := by rw [hW2x]; exact only_alloc (OnlyAt.of_below (Below.refl _ _)) _
        have hr2 : RS W2x g sj := by rw [hW2x]; exact rs_alloc HR.out _
        have HC := Lib.hid (IH.out g sj W2x hr2)
        have HXB := Lib.hid hxb
        have HO2x := Lib.hid ho2
        have hltv2 : b1 < bx := by rw [hbx]; exact hltv
        clear hr2 hxb ho2
        replace hW2x := Lib.hid hW2x
        have HBX := Lib.hid hbx
        clear hbx
        have hcond : decide ((n : Int) < (nn : Int)) = true := decide_eq_true (by omega)
        go_upto_region 25 with fail
        rw [← hW2x.out, ← HBX.out]
        go_wp2_with fail
        refine HC.out.mono ?_
        intro e w3r hvr
        obtain ⟨okb, k', n', f', s', A', m', c', tt, s2, rfl, hrep2, hr3, ho3, hyes, hno⟩ := vread_open hvr
        clear hvr
        have ho03 := HO2x.out.trans ho3
        have hv3r := box_only HV.out ho03 (by omega)
        have hx3r := box_only HX.out ho03 (by omega)
        have hxb3 := box_only HXB.out ho3 (by omega)
        have hz3 := ho3.size
        obtain ⟨W3x, hW3x⟩ : ∃ W3x, W3x = ((((w3r.setCell ⟨bx, 0, none⟩ (.int .i64 k')).setCell ⟨bx, 1, none⟩ (.int .i64 n')).setCell ⟨bx, 2, none⟩ (.float .f64 f')).setCell ⟨bx, 3, none⟩ (.string s')).setCell ⟨bx, 4, none⟩ (.slice A' m' c') := ⟨_, rfl⟩
        have hW3p : W3x = put5 w3r bx 0 (.int .i64 k') (.int .i64 n') (.float .f64 f') (.string s') (.slice A' m' c') := hW3x
        obtain ⟨W4, hW4⟩ : ∃ W4, W4 = W3x.alloc (.cells #[.int .i64 k', .int .i64 n', .float .f64 f', .string s', .slice A' m' c'] 30) := ⟨_, rfl⟩
        have hW4' : W4 = (put5 w3r bx 0 (.int .i64 k') (.int .i64 n') (.float .f64 f') (.string s') (.slice A' m' c')).alloc (.cells #[.int .i64 k', .int .i64 n', .float .f64 f', .string s', .slice A' m' c'] 30) := by rw [hW4, hW3p]
        obtain ⟨bw, hbw⟩ : ∃ bw, bw = w3r.heap.size := ⟨_, rfl⟩
        have hz4 : W4.heap.size = bw + 1 := by rw [hW4', World.size_alloc, Vt.put5_size, hbw]
        have hbx := HBX.out
        have ho04 : OnlyAt wr W4 g none := by rw [hW4']; exact only_alloc (only_put5 ho03 (by omega) _ _ _ _ _) _
        have e4 : ∀ b, b < w3r.heap.size → b ≠ bx → W4.heap[b]? = w3r.heap[b]? := fun b hb hne => by rw [hW4']; exact (heap_alloc_old _ _ (by rw [Vt.put5_size]; exact hb)).trans (Vt.put5_other _ _ _ _ _ _ _ _ b hne)
        have HV4 : Hid (BoxAt W4 b1 k 0 0 ⟨#[]⟩ A n cap) := Lib.hid (box_only HV.out ho04 (by omega))
        have HX4 : Hid (BoxAt W4 w.heap.size 0 0 0 ⟨#[]⟩ none 0 0) := Lib.hid (box_only HX.out ho04 (by omega))
        have HR4 : Hid (RS W4 g s2) := Lib.hid (by rw [hW4']; exact rs_alloc (rs_put5 hr3 (by omega) _ _ _ _ _) _)
        have HO4 : Hid (OnlyAt w W4 g none) := Lib.hid (HO.out.trans ho04)
        have HREP : Hid (Rep W4 W2x.heap.size w3r.heap.size tt (.agg #[.int .i64 k', .int .i64 n', .float .f64 f', .string s', .slice A' m' c'])) := Lib.hid (hrep2.keep fun b o h1 h2 => World.cell?_of_block (a := ⟨b, o, none⟩) (e4 b h2 (by omega)))
        have K2 : Hid (∀ q u, (#[Value.int .i64 k', .int .i64 n', .float .f64 f', .string s', .slice A' m' c'].toList)[q]? = some u → W4.cell? ((⟨bw, 0, none⟩ : Addr).add q) = some u) := Lib.hid (World.news_of_block (t := 30) (fr := (0, 0)) (by rw [hW4', hbw]; have := heap_alloc_new (put5 w3r bx 0 (.int .i64 k') (.int .i64 n') (.float .f64 f') (.string s') (.slice A' m' c')) (.cells #[.int .i64 k', .int .i64 n', .float .f64 f', .string s', .slice A' m' c'] 30); rw [Vt.put5_size] at this; exact this))
        have hvs4 := vs_only HVS.out ho04 (by omega)
        have HRO := Lib.hid fun r hr => hvs4.lt r hr
        have HRB : Hid (∀ r, rowOf A = some r → r < W2x.heap.size) := Lib.hid fun r hr => by have := (HVS.out.lt r hr).1; omega
        obtain ⟨xs, hlen, hlx, hxo, hxe⟩ := ownsRow_alloc hvs4
        have KO := Lib.hid hxo
        have HXE := Lib.hid hxe
        clear hxe hxo hvs4
        have HYES := Lib.hid hyes
        have HNO := Lib.hid hno
        clear hyes hno
        have KF : Hid (∀ r2 cap4 w5, w5.ownsRow (b1 + 1) 30 5 (.slice (some ⟨r2, 0, none⟩) (n + 1) cap4) (n + 1) (xs ++ #[Value.int .i64 k', .int .i64 n', .float .f64 f', .string s', .slice A' m' c'].toList) → W4.grownBy w5 (rowOf A) → (rowOf A = some r2 ∨ r2 = W4.heap.size) →
            VsAt w5 (b1 + 1) (some ⟨r2, 0, none⟩) cap4 (n + 1) (acc ++ [tt]) ∧ BoxAt w5 b1 k 0 0 ⟨#[]⟩ A n cap ∧ BoxAt w5 w.heap.size 0 0 0 ⟨#[]⟩ none 0 0 ∧ RS w5 g s2 ∧ OnlyAt w w5 g none) := Lib.hid fun r2 cap4 w5 hown5 hgrow5 hat5 => by
          have hb5 : Below (b1 + 1) W4 w5 := ⟨hgrow5.os, hgrow5.tape, hgrow5.output, hgrow5.size, fun b hb => hgrow5.block b (by omega) (fun e => by have := (HRO.out b e.symm).2; omega)⟩
          refine ⟨VsAt.push (cap := cap) (lo := W2x.heap.size) (hi := w3r.heap.size) hlen hlx (fun i h => HXE.out i h) (by omega) HREP.out (by omega) (fun r hr => .inl (HRB.out r hr)) hown5 hgrow5 hat5 (Nat.le_refl _), HV4.out.later hb5 (by omega), HX4.out.later hb5 (by omega), HR4.out.frame hgrow5.size fun x hx => hb5.block x (by omega), ⟨?_, ?_, ?_, ?_, ?_⟩⟩
          · exact hgrow5.os.trans HO4.out.os
          · exact hgrow5.tape.trans HO4.out.tape
          · exact hgrow5.output.trans HO4.out.output
          · exact Nat.le_trans HO4.out.size hgrow5.size
          · exact fun x hx h1 h2 => (hb5.block x (by omega)).trans (HO4.out.block x hx h1 h2)
        have hz2x : W2x.heap.size ≤ bw := by omega
        have hv3x : BoxAt W3x b1 k 0 0 ⟨#[]⟩ A n cap := by rw [hW3p]; exact (Vt.put5_other _ _ _ _ _ _ _ _ b1 (by omega)).trans hv3r
        have hxb3x : BoxAt W3x bx k' n' f' s' A' m' c' := by rw [hW3p]; exact Vt.put5_block _ _ _ _ _ _ _ _ _ _ hxb3
        have hz3x : W3x.heap.size = bw := by rw [hW3p, Vt.put5_size, hbw]
        have HV3X := Lib.hid hv3x
        have HXB3X := Lib.hid hxb3x
        obtain ⟨d0, d1, d2, d3, d4⟩ := hv3r.cells
        obtain ⟨x0, x1, x2, x3, x4⟩ := hxb3.cells
        have m0 := Vt.box_free hxb3 0
        have m1 := Vt.box_free hxb3 1
        have m2 := Vt.box_free hxb3 2
        have m3 := Vt.box_free hxb3 3
        have m4 := Vt.box_free hxb3 4
        have hn40 : n ≤ 1099511627776 := by omega
        have hb3 : bx < w3r.heap.size := hxb3.lt
        have hne1 : ¬ (b1 = bx) := by omega
        have hne2 : ¬ (bx = b1) := by omega
        clear hv3r hx3r hxb3 hrep2 hr3 ho3 ho03 ho04 e4 hW4' hbx hW3p hv3x hxb3x
        replace hW4 := Lib.hid hW4
        have HBW := Lib.hid hbw
        clear hbw
        replace hW3x := Lib.hid hW3x
        have HZ3X := Lib.hid hz3x
        clear hz3x
        go_upto_region 26 with fail
        rw [← hW3x.out]
        clear d0 d1 d2 d3 d4 x0 x1 x2 x3 x4 m0 m1 m2 m3 m4
        obtain ⟨d0, d1, d2, d3, d4⟩ := HV3X.out.cells
        obtain ⟨x0, x1, x2, x3, x4⟩ := HXB3X.out.cells
        go_wp2_with (at_builtin; rw [← hW4.out]; refine wpList_append_lies _ rfl _ _ 28 rfl (b1 + 1) 30 i0 _ 5 64 Tryz.underlying28 I1.out I2.out I3.out I4.out rfl (by decide) (.slice A n cap) n xs rfl KO.out ⟨W3x.heap.size, 0, none⟩ 1 1 #[Value.int .i64 k', .int .i64 n', .float .f64 f', .string s', .slice A' m' c'].toList rfl rfl (by rw [HZ3X.out]; exact K2.out) (by intro u hu; simp at hu; rcases hu with rfl | rfl | rfl | rfl | rfl <;> rfl) (by decide) (by simp only [maxLen]; omega) (by omega) (by omega) _ rfl ?_; intro r2 cap4 w5 hown5 hgrow5 hat5 hrl5; rw [Cm.rowOf_own] at hgrow5 hat5; obtain ⟨hP, hV5, hX5, hR5, hO5⟩ := KF.out r2 cap4 w5 hown5 hgrow5 hat5; clear hown5 hgrow5 hat5; have HP5 := Lib.hid hP; have HV5 := Lib.hid hV5; have HX5 := Lib.hid hX5; have HR5 := Lib.hid hR5; have HO5 := Lib.hid hO5; have hlt5 := hV5.lt; obtain ⟨q0, q1, q2, q3, q4⟩ := hV5.cells; have qf := Vt.box_free hV5 4; clear hP hV5 hX5 hR5 hO5)
        go_roundw
        case rel =>
          refine ⟨okb, n + 1, n + 1, some ⟨r2, 0, none⟩, cap4, s2, rfl, by go_num, by omega, Vt.box_far HX5.out (by omega) _, Vt.box_set HV5.out, rs_set HR5.out (by omega) _, only_set HO5.out (by omega) _, fun hok => ⟨rfl, acc ++ [tt], HP5.out.setCell (by simp only []; omega) _, rep_acc HREPE.out hlt (HYES.out hok), ?_⟩, fun hok => rep_stop HREPE.out hlt (HNO.out hok)⟩
          have := pv_lt HSJ.out (HYES.out hok)
          omega
        case measure => cases okb <;> simp [intOf] <;> omega
      · have hj2 : n = nn := by omega
        subst hj2
        have hcond : decide ((n : Int) < (n : Int)) = false := decide_eq_false (by omega)
        have HE := Lib.hid (rep_end HREPE.out)
        have HACC : Hid (acc.length = n) := Lib.hid HVS.out.1
        obtain ⟨d0, d1, d2, d3, d4⟩ := HV.out.cells
        obtain ⟨r0, r1, r2, r3, r4⟩ := HX.out.cells
        have f0 := Vt.box_free HX.out 0
        have f1 := Vt.box_free HX.out 1
        have f2 := Vt.box_free HX.out 2
        have f3 := Vt.box_free HX.out 3
        have f4 := Vt.box_free HX.out 4
        have hne1 : ¬ (w.heap.size = b1) := by omega
        have hne2 : ¬ (b1 = w.heap.size) := by omega
        have hltx := HX.out.lt
        go_wp2_with fail
        refine (rs_ok HR.out).mono ?_
        rintro e w5 ⟨rfl, rfl⟩
        cases hb4 : sj.2 with
        | true =>
          have HN : pv (left + 1) s = none := by rw [HP.out, HE.out]; simp only [hb4]; rfl
          go_wp2_with fail
          refine bodyPost_ret (v := .tuple #[.agg #[.int .i64 0, .int .i64 0, .float .f64 0, .string ⟨#[]⟩, .slice none 0 0], .bool false]) (by simp [results, Tryz.results79, go_sem, r0, r1, r2, r3, r4]) rfl ?_
          exact vread_no HN (rs_put5 HR.out (by omega) _ _ _ _ _) (only_put5 HO.out (Nat.le_refl _) _ _ _ _ _)
        | false =>
          have HY : pv (left + 1) s = some (sj, .mk 4 0 0 ⟨#[]⟩ acc) := by rw [HP.out, HE.out]; simp only [hb4]; rfl
          go_wp2_with fail
          refine bodyPost_ret (v := .tuple #[.agg #[.int .i64 (k : Int), .int .i64 0, .float .f64 0, .string ⟨#[]⟩, .slice A n cap], .bool true]) (by simp [results, Tryz.results79, go_sem, r0, r1, r2, r3, r4]) rfl ?_
          have hvs := HVS.out
          have hacc := HACC.out
          exact vread_yes HY (by rw [HK0.out]; rw [← hacc] at hvs ⊢; exact vs_rep hvs (by omega) _ _ _ _ _) (rs_put5 HR.out (by omega) _ _ _ _ _) (only_put5 HO.out (Nat.le_refl _) _ _ _ _ _)

end Rd
end Go.Proofs.YtcbddebmmaflgaaGreatDoor
namespace Go.Proofs.YtcbddebmmaflgaaGreatDoor
open Go.RowKit
set_option linter.unusedVariables false
set_option linter.unusedSimpArgs false
namespace Rd
open _root_.Go.Proofs.YtcbddebmmaflgaaGreatDoor.Nm (ret_int ret_bool bitsW ofW okW)
open Vt (VT Rep BoxAt below_drew put5 KidsAt HeadOk kindV of_any kv0 kv1 kv2 kv3 kv4)
open Cm (OnlyAt rowOf)
open Cn (BRd brd_own VsAt VNew)
attribute [local go_sem] Vt.run_store_float

theorem vread_any (left : Nat) (hL : left ≤ 1000) : ∀ (g : Nat) (s : St) (w : World), RS w g s → Calls Tryz.prog 79 #[.pointer (some ⟨g, 0, none⟩), .int .i64 (left : Nat)] w (VRead left s w g) := by
  have key : ∀ (left g : Nat) (s : St) (w : World), RS w g s → ((rUint s).1.2 = false ∧ (rUint s).2 = 4 → Calls Tryz.prog 79 #[.pointer (some ⟨g, 0, none⟩), .int .i64 (left : Nat)] w (VRead left s w g)) → Calls Tryz.prog 79 #[.pointer (some ⟨g, 0, none⟩), .int .i64 (left : Nat)] w (VRead left s w g) := by
    intro left g s w h h4
    by_cases hq : (rUint s).1.2 = true ∨ 4 < (rUint s).2
    · exact rw_bad left g s w h hq
    · have hb : (rUint s).1.2 = false := bool_of fun hh => hq (.inl hh)
      have hk : (rUint s).2 ≤ 4 := by have := fun hh => hq (.inr hh); omega
      rcases (by omega : (rUint s).2 = 0 ∨ (rUint s).2 = 1 ∨ (rUint s).2 = 2 ∨ (rUint s).2 = 3 ∨ (rUint s).2 = 4) with k | k | k | k | k
      · exact rw_none left g s w h ⟨hb, k⟩
      · exact rw_int left g s w h ⟨hb, k⟩
      · exact rw_float left g s w h ⟨hb, k⟩
      · exact rw_text left g s w h ⟨hb, k⟩
      · exact h4 ⟨hb, k⟩
  induction left with
  | zero => exact fun g s w h => key 0 g s w h fun hq => rw_list0 g s w h hq
  | succ left ih => exact fun g s w h => key (left + 1) g s w h fun hq => rw_list left g s w h hq (by omega) (Lib.hid (ih (by omega)))
/-- What value.Read leaves. -/
def VOpen (s : St) (w : World) (g : Nat) (r : Ending) (w' : World) : Prop := ∃ (okb : Bool) (k n : Int) (f : Nat) (str : ByteArray) (A : Option Addr) (m c : Nat) (tt : VT) (s' : St),
    r = .returned (.tuple #[.agg #[.int .i64 k, .int .i64 n, .float .f64 f, .string str, .slice A m c], .bool okb]) ∧ Rep w' w.heap.size w'.heap.size tt (.agg #[.int .i64 k, .int .i64 n, .float .f64 f, .string str, .slice A m c]) ∧ RS w' g s' ∧ OnlyAt w w' g none ∧
    (okb = true → pv 8 s = some (s', tt)) ∧ (okb = false → pv 8 s = none)
set_option maxRecDepth 100000 in
theorem value_read (g : Nat) (s : St) (w : World) (h : RS w g s) : Calls Tryz.prog 40 #[.pointer (some ⟨g, 0, none⟩)] w (VOpen s w g) := by
  have hg := h.lt
  obtain ⟨W0, hW0⟩ : ∃ W0, W0 = w.alloc (.cells #[.int .i64 0, .int .i64 0, .float .f64 0, .string ⟨#[]⟩, .slice none 0 0] 30) := ⟨_, rfl⟩
  have hx0 : BoxAt W0 w.heap.size 0 0 0 ⟨#[]⟩ none 0 0 := by rw [hW0]; exact BoxAt.new ..
  have hr0 : RS W0 g s := by rw [hW0]; exact rs_alloc h _
  have ho0 : OnlyAt w W0 g none := by rw [hW0]; exact only_alloc (OnlyAt.of_below (Below.refl _ _)) _
  have hz0 : W0.heap.size = w.heap.size + 1 := by rw [hW0]; simp
  have HC : Hid (Calls Tryz.prog 79 #[.pointer (some ⟨g, 0, none⟩), .int .i64 8] W0 (VRead 8 s W0 g)) := Lib.hid (vread_any 8 (by decide) g s W0 hr0)
  have HX0 := Lib.hid hx0; have HO0 := Lib.hid ho0; have HZ0 := Lib.hid hz0
  clear h hr0 hx0 ho0 hz0
  replace hW0 := Lib.hid hW0
  go_enter Tryz.func40, Tryz.ntmps40
  go_upto_region 1 with fail
  rw [← hW0.out]
  go_wp2_with fail
  refine HC.out.mono ?_
  intro e w1 hv
  obtain ⟨okb, k', n', f', s', A', m', c', tt, s2, rfl, hrep, hr, ho, hyes, hno⟩ := vread_open hv
  have hx1 := box_only HX0.out ho (by omega)
  have hlt1 := hx1.lt
  obtain ⟨r0, r1, r2, r3, r4⟩ := hx1.cells
  have f0 := Vt.box_free hx1 0
  have f1 := Vt.box_free hx1 1
  have f2 := Vt.box_free hx1 2
  have f3 := Vt.box_free hx1 3
  have f4 := Vt.box_free hx1 4
  have HREP := Lib.hid hrep; have HR := Lib.hid hr; have HO := Lib.hid ho; have HY := Lib.hid hyes; have HN := Lib.hid hno
  clear hv hrep hr ho hyes hno hx1
  go_wp2_with fail
  refine bodyPost_ret (v := .tuple #[.agg #[.int .i64 k', .int .i64 n', .float .f64 f', .string s', .slice A' m' c'], .bool okb]) (by simp [results, Tryz.results40, go_sem, r0, r1, r2, r3, r4]) rfl ?_
  refine ⟨okb, k', n', f', s', A', m', c', tt, s2, rfl, ?_, rs_put5 HR.out (by omega) _ _ _ _ _, only_put5 (HO0.out.trans HO.out) (Nat.le_refl _) _ _ _ _ _, HY.out, HN.out⟩
  show Rep (put5 w1 w.heap.size 0 (.int .i64 k') (.int .i64 n') (.float .f64 f') (.string s') (.slice A' m' c')) w.heap.size (put5 w1 w.heap.size 0 (.int .i64 k') (.int .i64 n') (.float .f64 f') (.string s') (.slice A' m' c')).heap.size tt _
  rw [Vt.put5_size]
  have hz := HZ0.out
  exact (HREP.out.keep fun b o hb _ => Vt.put5_cell _ _ _ _ _ _ _ _ b o (by omega)).more (by omega) (Nat.le_refl _)
end Rd
end Go.Proofs.YtcbddebmmaflgaaGreatDoor
namespace Go.Proofs.YtcbddebmmaflgaaGreatDoor
open Go.RowKit
set_option linter.unusedVariables false
set_option linter.unusedSimpArgs false
namespace Rd
open _root_.Go.Proofs.YtcbddebmmaflgaaGreatDoor.Nm (ret_int ret_bool bitsW ofW okW)
open Vt (VT Rep BoxAt below_drew put5 KidsAt HeadOk)
open Cm (OnlyAt rowOf)
open Cn (BRd brd_own VsAt VNew)
open Bt (BIn)
attribute [local go_sem] Vt.run_store_float

/-- What the reference's reading of a value leaves. -/
def RRead (left : Nat) (s : St) (B : Nat) (w : World) (r : Ending) (w' : World) : Prop := ∃ (okb : Bool) (y : Value) (s' : St) (k n : Int) (f : Nat) (str : ByteArray) (A : Option Addr) (m c : Nat) (tt : VT),
    r = .returned (.tuple #[y, .agg #[.int .i64 k, .int .i64 n, .float .f64 f, .string str, .slice A m c], .bool okb]) ∧ RV w' B s' y ∧ Rep w' w.heap.size w'.heap.size tt (.agg #[.int .i64 k, .int .i64 n, .float .f64 f, .string str, .slice A m c]) ∧ Below w.heap.size w w' ∧
    (okb = true → pv left s = some (s', tt)) ∧ (okb = false → pv left s = none)
theorem rread_no {left B : Nat} {s s' : St} {w w' : World} {v : Value} (h : pv left s = none) (hv : BRd w' v s'.1 ∧ Far v B ∧ Byt s'.1 ∧ s'.1.length ≤ 1099511627776) (hb : Below w.heap.size w w') :
    RRead left s B w (.returned (.tuple #[.agg #[v, .bool s'.2], .agg #[.int .i64 0, .int .i64 0, .float .f64 0, .string ⟨#[]⟩, .slice none 0 0], .bool false])) w' :=
  ⟨false, _, s', 0, 0, 0, ⟨#[]⟩, none, 0, 0, .mk 0 0 0 ⟨#[]⟩ [], rfl, ⟨⟨v, rfl, hv.1, hv.2.1⟩, hv.2.2⟩, rep_leaf ⟨by decide, by decide, by decide, by decide, by decide, by decide, by decide⟩, hb, fun h => Bool.noConfusion h, fun _ => h⟩
theorem rread_yes {left B : Nat} {s s' : St} {w w' : World} {v : Value} {t : VT} {k n : Int} {f : Nat} {str : ByteArray} {A : Option Addr} {m c : Nat} (h : pv left s = some (s', t)) (hv : BRd w' v s'.1 ∧ Far v B ∧ Byt s'.1 ∧ s'.1.length ≤ 1099511627776)
    (hrep : Rep w' w.heap.size w'.heap.size t (.agg #[.int .i64 k, .int .i64 n, .float .f64 f, .string str, .slice A m c])) (hb : Below w.heap.size w w') :
    RRead left s B w (.returned (.tuple #[.agg #[v, .bool s'.2], .agg #[.int .i64 k, .int .i64 n, .float .f64 f, .string str, .slice A m c], .bool true])) w' :=
  ⟨true, _, s', k, n, f, str, A, m, c, t, rfl, ⟨⟨v, rfl, hv.1, hv.2.1⟩, hv.2.2⟩, hrep, hb, fun _ => h, fun h => Bool.noConfusion h⟩
/-- A reader's parts at a world, kept by what writes above B. -/
def RP (w : World) (B : Nat) (v : Value) (l : List Nat) : Prop := BRd w v l ∧ Far v B ∧ Byt l ∧ l.length ≤ 1099511627776
theorem RP.below {w w' : World} {B C : Nat} {v : Value} {l : List Nat} (h : RP w B v l) (hb : Below C w w') (hB : B ≤ C) : RP w' B v l :=
  ⟨brd_keep h.1 hb.size fun k e => hb.block k (by have := h.2.1 k e; omega), h.2⟩
theorem RP.store {w : World} {B : Nat} {v : Value} {l : List Nat} (h : RP w B v l) : ∀ W a m, (store a v m).run Tryz.prog W = stored Tryz.prog W a v m := fun W a m => by
  obtain ⟨A, c, rfl⟩ := h.1.form
  exact run_store _ W a _ m rfl
theorem qb_set {w : World} {b : Nat} {v v' : Value} {bad bad' : Bool} (h : QB w b v bad) : QB ((w.setCell ⟨b, 0, none⟩ v').setCell ⟨b, 1, none⟩ (.bool bad')) b v' bad' := by
  unfold QB at h ⊢; simp [World.setCell, Array.getElem?_modify, h]
theorem qb_far {w : World} {b g o : Nat} {v : Value} {bad : Bool} (h : QB w b v bad) (hb : b ≠ g) (x : Value) : QB (w.setCell ⟨g, o, none⟩ x) b v bad := (Below.heap_setCell w ⟨g, o, none⟩ x b (by simpa using hb)).trans h
theorem three_boxes (w : World) (v : Value) (bad : Bool) : ∃ W0, W0 = ((w.alloc (.cells #[v, .bool bad] 36)).alloc (.cells #[.slice none 0 0, .bool false] 36)).alloc (.cells #[.int .i64 0, .int .i64 0, .float .f64 0, .string ⟨#[]⟩, .slice none 0 0] 30) ∧ QB W0 w.heap.size v bad ∧ QB W0 (w.heap.size + 1) (.slice none 0 0) false ∧ BoxAt W0 (w.heap.size + 1 + 1) 0 0 0 ⟨#[]⟩ none 0 0 ∧ Below w.heap.size w W0 ∧ W0.heap.size = w.heap.size + 3 := by
  obtain ⟨W1, hW1, h1, h2, h3, h4⟩ := two_boxes w v bad
  refine ⟨_, rfl, ?_, ?_, ?_, ?_, ?_⟩
  · rw [← hW1]; exact (heap_alloc_old _ _ (by omega)).trans h1
  · rw [← hW1]; exact (heap_alloc_old _ _ (by omega)).trans h2
  · rw [← hW1, ← h4]; exact BoxAt.new ..
  · rw [← hW1]; exact h3.alloc h3.size _
  · rw [← hW1]; simp [h4]
theorem fin7 {C : Nat} {w W : World} {b : Nat} (h : Below C w W) (hb : C ≤ b) (x0 x1 d0 d1 d2 d3 d4 : Value) : Below C w (put5 ((W.setCell ⟨b, 0, none⟩ x0).setCell ⟨b, 1, none⟩ x1) (b + 1) 0 d0 d1 d2 d3 d4) :=
  Vt.put5_below (below_set2 (below_set2 h hb _ _) hb _ _) (by omega)
theorem box_set0 {w : World} {g : Nat} {k n : Int} {f : Nat} {s : ByteArray} {A : Option Addr} {m c : Nat} (h : BoxAt w g k n f s A m c) (k' : Int) : BoxAt (w.setCell ⟨g, 0, none⟩ (.int .i64 k')) g k' n f s A m c := by
  unfold BoxAt at *; simp [World.setCell, Array.getElem?_modify, h]
theorem box_set1 {w : World} {g : Nat} {k n : Int} {f : Nat} {s : ByteArray} {A : Option Addr} {m c : Nat} (h : BoxAt w g k n f s A m c) (n' : Int) : BoxAt (w.setCell ⟨g, 1, none⟩ (.int .i64 n')) g k n' f s A m c := by
  unfold BoxAt at *; simp [World.setCell, Array.getElem?_modify, h]
theorem box_set2 {w : World} {g : Nat} {k n : Int} {f : Nat} {s : ByteArray} {A : Option Addr} {m c : Nat} (h : BoxAt w g k n f s A m c) (f' : Nat) : BoxAt (w.setCell ⟨g, 2, none⟩ (.float .f64 f')) g k n f' s A m c := by
  unfold BoxAt at *; simp [World.setCell, Array.getElem?_modify, h]
theorem box_set3 {w : World} {g : Nat} {k n : Int} {f : Nat} {s : ByteArray} {A : Option Addr} {m c : Nat} (h : BoxAt w g k n f s A m c) (s' : ByteArray) : BoxAt (w.setCell ⟨g, 3, none⟩ (.string s')) g k n f s' A m c := by
  unfold BoxAt at *; simp [World.setCell, Array.getElem?_modify, h]

set_option maxRecDepth 100000 in
set_option maxHeartbeats 4000000 in
theorem rr_bad (left : Nat) (s : St) (x : Value) (w : World) (B : Nat) (hB : B ≤ w.heap.size) (h : RV w B s x) (hq : (rUint s).1.2 = true ∨ 4 < (rUint s).2) :
    Calls Tryz.prog 83 #[x, .int .i64 (left : Nat)] w (RRead (left) s B w) := by
  have HP : Hid (pv left s = none) := Lib.hid (by rw [pv_eq, if_pos hq])
  have HQQ := Lib.hid hq
  clear hq
  obtain ⟨⟨v, rfl, hv, hf⟩, hb, hl⟩ := h
  obtain ⟨l, bad⟩ := s
  simp only at *
  obtain ⟨W0, hW0, hq, hqr, hx, hb0, hz0⟩ := three_boxes w v bad
  have hp0 : RP W0 B v l := RP.below ⟨hv, hf, hb, hl⟩ hb0 hB
  have HU := Lib.hid (rruint_any (l, bad) (.agg #[v, .bool bad]) W0 B (by omega) ⟨⟨v, rfl, hp0.1, hf⟩, hb, hl⟩)
  have HBY := Lib.hid (rUint_byt (s := (l, bad)) hb hl)
  have HQ := Lib.hid hq
  have HQR := Lib.hid hqr
  have HX := Lib.hid hx
  have HB0 := Lib.hid hb0
  have HST := Lib.hid hp0.store
  clear hv hf hb hl hx hq hqr hb0 hp0
  generalize rUint (l, bad) = q at *
  obtain ⟨⟨l1, bad1⟩, k⟩ := q
  simp only at *
  obtain ⟨c0, hc0⟩ : ∃ c0, c0 = w.heap.size := ⟨_, rfl⟩
  rw [← hc0] at HQ HQR HX HB0 hz0 hB
  obtain ⟨a0, a1, af0, af1⟩ := HQ.out.cells
  replace hW0 := Lib.hid hW0
  have HC0 := Lib.hid hc0
  clear hc0
  go_enter Tryz.func83, Tryz.ntmps83
  go_upto_region 1 with fail
  rw [← hW0.out, ← HC0.out]
  go_wp2_with fail
  refine HU.out.mono ?_
  rintro e w1 ⟨y, rfl, ⟨⟨v1, rfl, hv1, hf1⟩, hb1, hl1⟩, hbl⟩
  simp only at hv1 hf1 hb1 hl1
  have hp1 : RP w1 B v1 l1 := ⟨hv1, hf1, hb1, hl1⟩
  have hst1 := hp1.store
  clear hv1 hf1 hb1 hl1 a0 a1 af0 af1
  have hzw := hbl.size
  have hq1 := HQ.out.later hbl (by omega)
  have hqr1 := HQR.out.later hbl (by omega)
  have hx1 := HX.out.later hbl (by omega)
  obtain ⟨b1, hb1⟩ : ∃ b1, b1 = w1.heap.size := ⟨_, rfl⟩
  obtain ⟨W2, hW2⟩ : ∃ W2, W2 = ((w1.setCell ⟨c0, 0, none⟩ v1).setCell ⟨c0, 1, none⟩ (.bool bad1)).alloc (.cells #[.int .i64 0, .int .i64 0, .float .f64 0, .string ⟨#[]⟩, .slice none 0 0] 30) := ⟨_, rfl⟩
  have hs2 : Below c0 w1 ((w1.setCell ⟨c0, 0, none⟩ v1).setCell ⟨c0, 1, none⟩ (.bool bad1)) := below_set2 (below_set2 (Below.refl _ _) (Nat.le_refl _) _ _) (Nat.le_refl _) _ _
  have hzs : ((w1.setCell ⟨c0, 0, none⟩ v1).setCell ⟨c0, 1, none⟩ (.bool bad1)).heap.size = b1 := by rw [hb1]; simp [World.setCell]
  have hb12 : Below c0 w1 W2 := by rw [hW2]; exact hs2.alloc (by omega) _
  have e2 : ∀ b, b < b1 → W2.heap[b]? = ((w1.setCell ⟨c0, 0, none⟩ v1).setCell ⟨c0, 1, none⟩ (.bool bad1)).heap[b]? := fun b hb => by rw [hW2]; exact heap_alloc_old _ _ (by rw [hzs]; exact hb)
  have HQ2 : Hid (QB W2 c0 v1 bad1) := Lib.hid ((e2 c0 (by omega)).trans (qb_set hq1))
  have HQR2 : Hid (QB W2 (c0 + 1) (.slice none 0 0) false) := Lib.hid ((e2 _ (by omega)).trans (qb_far (qb_far hqr1 (by omega) _) (by omega) _))
  have HX2 : Hid (BoxAt W2 (c0 + 1 + 1) 0 0 0 ⟨#[]⟩ none 0 0) := Lib.hid ((e2 _ (by omega)).trans (Vt.box_far (Vt.box_far hx1 (by omega) _) (by omega) _))
  have HV2 : Hid (BoxAt W2 b1 0 0 0 ⟨#[]⟩ none 0 0) := Lib.hid (by rw [hW2, ← hzs]; exact BoxAt.new ..)
  have hz2 : W2.heap.size = b1 + 1 := by rw [hW2, World.size_alloc, hzs]
  have HP2 := Lib.hid (hp1.below hb12 hB)
  have HB2 := Lib.hid (HB0.out.trans ((hbl.mono (by omega)).trans hb12))
  obtain ⟨a0, a1, af0, af1⟩ := hq1.cells
  have hlt3 : c0 + 1 + 1 < b1 := by omega
  clear hs2 hzs hb12 e2 hp1 hqr1 hx1 hbl hzw hq1
  replace hW2 := Lib.hid hW2
  have HB1 := Lib.hid hb1
  go_upto_region 3 with fail
  rw [← hW2.out, ← HB1.out]
  clear a0 a1 af0 af1 hst1 hb1
  have hst := HP2.out.store
  obtain ⟨a0, a1, af0, af1⟩ := HQ2.out.cells
  obtain ⟨q0, q1, qf0, qf1⟩ := HQR2.out.cells
  obtain ⟨r0, r1, r2, r3, r4⟩ := HX2.out.cells
  have f0 := Vt.box_free HX2.out 0
  have f1 := Vt.box_free HX2.out 1
  have f2 := Vt.box_free HX2.out 2
  have f3 := Vt.box_free HX2.out 3
  have f4 := Vt.box_free HX2.out 4
  obtain ⟨d0, d1, d2, d3, d4⟩ := HV2.out.cells
  have m0 := Vt.box_free HV2.out 0
  have m1 := Vt.box_free HV2.out 1
  have m2 := Vt.box_free HV2.out 2
  have m3 := Vt.box_free HV2.out 3
  have m4 := Vt.box_free HV2.out 4
  have hne1 : ¬ (b1 = c0) := by omega
  have hne2 : ¬ (b1 = c0 + 1) := by omega
  have hne3 : ¬ (b1 = c0 + 1 + 1) := by omega
  have hne4 : ¬ (c0 = b1) := by omega
  have hne5 : ¬ (c0 + 1 = b1) := by omega
  have hne6 : ¬ (c0 + 1 + 1 = b1) := by omega
  cases bad1 with
  | true =>
    go_wp2_with fail
    go_region
    go_wp2_with fail
    refine bodyPost_ret (v := .tuple #[.agg #[v1, .bool true], .agg #[.int .i64 0, .int .i64 0, .float .f64 0, .string ⟨#[]⟩, .slice none 0 0], .bool false]) (by simp [results, Tryz.results83, go_sem, q0, q1, r0, r1, r2, r3, r4]) rfl ?_
    exact rread_no (s' := (l1, true)) HP.out (HP2.out.below (C := c0) (below_drew (fin7 (Below.refl _ _) (Nat.le_succ _) _ _ _ _ _ _ _)) hB) (by rw [← HC0.out]; exact below_drew (fin7 HB2.out (Nat.le_succ _) _ _ _ _ _ _ _))
  | false =>
    have hk4 : 4 < k := HQQ.out.resolve_left (by simp)
    have k1 : decide ((k : Int) > 4) = true := decide_eq_true (by omega)
    have k2 : decide ((4 : Int) < (k : Int)) = true := decide_eq_true (by omega)
    have k3 : decide (4 < k) = true := decide_eq_true hk4
    go_wp2_with fail
    go_region
    go_wp2_with fail
    refine bodyPost_ret (v := .tuple #[.agg #[v1, .bool false], .agg #[.int .i64 0, .int .i64 0, .float .f64 0, .string ⟨#[]⟩, .slice none 0 0], .bool false]) (by simp [results, Tryz.results83, go_sem, q0, q1, r0, r1, r2, r3, r4]) rfl ?_
    exact rread_no (s' := (l1, false)) HP.out (HP2.out.below (C := c0) (below_drew (fin7 (Below.refl _ _) (Nat.le_succ _) _ _ _ _ _ _ _)) hB) (by rw [← HC0.out]; exact below_drew (fin7 HB2.out (Nat.le_succ _) _ _ _ _ _ _ _))

set_option maxRecDepth 100000 in
set_option maxHeartbeats 4000000 in
theorem rr_none (left : Nat) (s : St) (x : Value) (w : World) (B : Nat) (hB : B ≤ w.heap.size) (h : RV w B s x) (hq : (rUint s).1.2 = false ∧ (rUint s).2 = 0) :
    Calls Tryz.prog 83 #[x, .int .i64 (left : Nat)] w (RRead (left) s B w) := by
  have HP : Hid (pv (left) s = some ((rUint s).1, .mk 0 0 0 ⟨#[]⟩ [])) := Lib.hid (by rw [pv_eq, if_neg (by rw [hq.1, hq.2]; simp), if_pos hq.2] <;> rfl)
  have HQQ := Lib.hid hq
  clear hq
  obtain ⟨⟨v, rfl, hv, hf⟩, hb, hl⟩ := h
  obtain ⟨l, bad⟩ := s
  simp only at *
  obtain ⟨W0, hW0, hq, hqr, hx, hb0, hz0⟩ := three_boxes w v bad
  have hp0 : RP W0 B v l := RP.below ⟨hv, hf, hb, hl⟩ hb0 hB
  have HU := Lib.hid (rruint_any (l, bad) (.agg #[v, .bool bad]) W0 B (by omega) ⟨⟨v, rfl, hp0.1, hf⟩, hb, hl⟩)
  have HBY := Lib.hid (rUint_byt (s := (l, bad)) hb hl)
  have HQ := Lib.hid hq
  have HQR := Lib.hid hqr
  have HX := Lib.hid hx
  have HB0 := Lib.hid hb0
  have HST := Lib.hid hp0.store
  clear hv hf hb hl hx hq hqr hb0 hp0
  generalize rUint (l, bad) = q at *
  obtain ⟨⟨l1, bad1⟩, k⟩ := q
  simp only at *
  obtain ⟨c0, hc0⟩ : ∃ c0, c0 = w.heap.size := ⟨_, rfl⟩
  rw [← hc0] at HQ HQR HX HB0 hz0 hB
  obtain ⟨a0, a1, af0, af1⟩ := HQ.out.cells
  replace hW0 := Lib.hid hW0
  have HC0 := Lib.hid hc0
  clear hc0
  go_enter Tryz.func83, Tryz.ntmps83
  go_upto_region 1 with fail
  rw [← hW0.out, ← HC0.out]
  go_wp2_with fail
  refine HU.out.mono ?_
  rintro e w1 ⟨y, rfl, ⟨⟨v1, rfl, hv1, hf1⟩, hb1, hl1⟩, hbl⟩
  simp only at hv1 hf1 hb1 hl1
  have hp1 : RP w1 B v1 l1 := ⟨hv1, hf1, hb1, hl1⟩
  have hst1 := hp1.store
  clear hv1 hf1 hb1 hl1 a0 a1 af0 af1
  have hzw := hbl.size
  have hq1 := HQ.out.later hbl (by omega)
  have hqr1 := HQR.out.later hbl (by omega)
  have hx1 := HX.out.later hbl (by omega)
  obtain ⟨b1, hb1⟩ : ∃ b1, b1 = w1.heap.size := ⟨_, rfl⟩
  obtain ⟨W2, hW2⟩ : ∃ W2, W2 = ((w1.setCell ⟨c0, 0, none⟩ v1).setCell ⟨c0, 1, none⟩ (.bool bad1)).alloc (.cells #[.int .i64 0, .int .i64 0, .float .f64 0, .string ⟨#[]⟩, .slice none 0 0] 30) := ⟨_, rfl⟩
  have hs2 : Below c0 w1 ((w1.setCell ⟨c0, 0, none⟩ v1).setCell ⟨c0, 1, none⟩ (.bool bad1)) := below_set2 (below_set2 (Below.refl _ _) (Nat.le_refl _) _ _) (Nat.le_refl _) _ _
  have hzs : ((w1.setCell ⟨c0, 0, none⟩ v1).setCell ⟨c0, 1, none⟩ (.bool bad1)).heap.size = b1 := by rw [hb1]; simp [World.setCell]
  have hb12 : Below c0 w1 W2 := by rw [hW2]; exact hs2.alloc (by omega) _
  have e2 : ∀ b, b < b1 → W2.heap[b]? = ((w1.setCell ⟨c0, 0, none⟩ v1).setCell ⟨c0, 1, none⟩ (.bool bad1)).heap[b]? := fun b hb => by rw [hW2]; exact heap_alloc_old _ _ (by rw [hzs]; exact hb)
  have HQ2 : Hid (QB W2 c0 v1 bad1) := Lib.hid ((e2 c0 (by omega)).trans (qb_set hq1))
  have HQR2 : Hid (QB W2 (c0 + 1) (.slice none 0 0) false) := Lib.hid ((e2 _ (by omega)).trans (qb_far (qb_far hqr1 (by omega) _) (by omega) _))
  have HX2 : Hid (BoxAt W2 (c0 + 1 + 1) 0 0 0 ⟨#[]⟩ none 0 0) := Lib.hid ((e2 _ (by omega)).trans (Vt.box_far (Vt.box_far hx1 (by omega) _) (by omega) _))
  have HV2 : Hid (BoxAt W2 b1 0 0 0 ⟨#[]⟩ none 0 0) := Lib.hid (by rw [hW2, ← hzs]; exact BoxAt.new ..)
  have hz2 : W2.heap.size = b1 + 1 := by rw [hW2, World.size_alloc, hzs]
  have HP2 := Lib.hid (hp1.below hb12 hB)
  have HB2 := Lib.hid (HB0.out.trans ((hbl.mono (by omega)).trans hb12))
  obtain ⟨a0, a1, af0, af1⟩ := hq1.cells
  have hlt3 : c0 + 1 + 1 < b1 := by omega
  clear hs2 hzs hb12 e2 hp1 hqr1 hx1 hbl hzw hq1
  replace hW2 := Lib.hid hW2
  have HB1 := Lib.hid hb1
  go_upto_region 3 with fail
  rw [← hW2.out, ← HB1.out]
  clear a0 a1 af0 af1 hst1 hb1
  have hst := HP2.out.store
  obtain rfl : bad1 = false := HQQ.out.1
  have k1 : decide ((k : Int) > 4) = false := decide_eq_false (by have := HQQ.out.2; omega)
  have k2 : decide ((4 : Int) < (k : Int)) = false := decide_eq_false (by have := HQQ.out.2; omega)
  have k3 : decide (4 < k) = false := decide_eq_false (by have := HQQ.out.2; omega)
  have hwk : IntKind.i64.wrap (k : Int) = (k : Int) := by have := HQQ.out.2; rw [IntKind.wrap_i64]; omega
  have e1 : ((k : Int) == 1) = false := beq_eq_false_iff_ne.2 (by have := HQQ.out.2; omega)
  have e2 : ((k : Int) == 2) = false := beq_eq_false_iff_ne.2 (by have := HQQ.out.2; omega)
  have e3 : ((k : Int) == 3) = false := beq_eq_false_iff_ne.2 (by have := HQQ.out.2; omega)
  have e4 : ((k : Int) == 4) = false := beq_eq_false_iff_ne.2 (by have := HQQ.out.2; omega)
  have HK0 : Hid ((k : Int) = 0) := Lib.hid (by have := HQQ.out.2; omega)
  obtain ⟨W3, hW3⟩ : ∃ W3, W3 = W2.setCell ⟨b1, 0, none⟩ (.int .i64 (k : Int)) := ⟨_, rfl⟩
  have hs3 : Below c0 W2 W3 := by rw [hW3]; exact below_set2 (Below.refl _ _) (by omega) _ _
  have HQ3 : Hid (QB W3 c0 v1 false) := Lib.hid (by rw [hW3]; exact qb_far HQ2.out (by omega) _)
  have HQR3 : Hid (QB W3 (c0 + 1) (.slice none 0 0) false) := Lib.hid (by rw [hW3]; exact qb_far HQR2.out (by omega) _)
  have HX3 : Hid (BoxAt W3 (c0 + 1 + 1) 0 0 0 ⟨#[]⟩ none 0 0) := Lib.hid (by rw [hW3]; exact Vt.box_far HX2.out (by omega) _)
  have HV3 : Hid (BoxAt W3 b1 k 0 0 ⟨#[]⟩ none 0 0) := Lib.hid (by rw [hW3]; exact box_set0 HV2.out _)
  have hz3 : W3.heap.size = b1 + 1 := by rw [hW3]; simpa [World.setCell] using hz2
  have HP3 := Lib.hid (HP2.out.below hs3 hB)
  have HB3 := Lib.hid (HB2.out.trans hs3)
  clear hs3
  obtain ⟨a0, a1, af0, af1⟩ := HQ2.out.cells
  obtain ⟨d0, d1, d2, d3, d4⟩ := HV2.out.cells
  have m0 := Vt.box_free HV2.out 0
  have m1 := Vt.box_free HV2.out 1
  have m2 := Vt.box_free HV2.out 2
  have m3 := Vt.box_free HV2.out 3
  have m4 := Vt.box_free HV2.out 4
  have hz2x := hz2
  clear hz2x
  replace hW3 := Lib.hid hW3
  go_upto_region 6 with fail
  rw [← hW3.out]
  clear a0 a1 af0 af1 d0 d1 d2 d3 d4 m0 m1 m2 m3 m4 hst k1 k2 k3 hz2
  have hst := HP3.out.store
  obtain ⟨a0, a1, af0, af1⟩ := HQ3.out.cells
  clear a0 a1 af0 af1 hst
  obtain ⟨W4, hW4⟩ : ∃ W4, W4 = W3 := ⟨_, rfl⟩
  rw [← hW4] at HQ3 HQR3 HX3 HV3 HP3 HB3 ⊢
  have HQ4 := HQ3; have HQR4 := HQR3; have HX4 := HX3; have HV4 := HV3; have HP4 := HP3; have HB4 := HB3
  clear HQ3 HQR3 HX3 HV3 HP3 HB3 hz3
  replace hW4 := Lib.hid hW4
  obtain ⟨a0, a1, af0, af1⟩ := HQ4.out.cells
  obtain ⟨q0, q1, qf0, qf1⟩ := HQR4.out.cells
  obtain ⟨r0, r1, r2, r3, r4⟩ := HX4.out.cells
  have f0 := Vt.box_free HX4.out 0
  have f1 := Vt.box_free HX4.out 1
  have f2 := Vt.box_free HX4.out 2
  have f3 := Vt.box_free HX4.out 3
  have f4 := Vt.box_free HX4.out 4
  obtain ⟨d0, d1, d2, d3, d4⟩ := HV4.out.cells
  have m0 := Vt.box_free HV4.out 0
  have m1 := Vt.box_free HV4.out 1
  have m2 := Vt.box_free HV4.out 2
  have m3 := Vt.box_free HV4.out 3
  have m4 := Vt.box_free HV4.out 4
  have hne1 : ¬ (b1 = c0) := by omega
  have hne2 : ¬ (b1 = c0 + 1) := by omega
  have hne3 : ¬ (b1 = c0 + 1 + 1) := by omega
  have hne4 : ¬ (c0 = b1) := by omega
  have hne5 : ¬ (c0 + 1 = b1) := by omega
  have hne6 : ¬ (c0 + 1 + 1 = b1) := by omega
  have hlt4 : b1 < W4.heap.size := HV4.out.lt
  have hst4 := HP4.out.store
  have HY : pv left (l, bad) = some ((l1, false), .mk 0 0 0 ⟨#[]⟩ []) := by rw [HP.out]
  go_wp2_with fail
  go_region
  go_wp2_with fail
  refine bodyPost_ret (v := .tuple #[.agg #[v1, .bool false], .agg #[.int .i64 (k : Int), .int .i64 0, .float .f64 0, .string ⟨#[]⟩, .slice none 0 0], .bool true]) (by simp [results, Tryz.results83, go_sem, q0, q1, r0, r1, r2, r3, r4]) rfl ?_
  exact rread_yes (s' := (l1, false)) HY (HP4.out.below (C := c0) (below_drew (fin7 (Below.refl _ _) (Nat.le_succ _) _ _ _ _ _ _ _)) hB) (by rw [HK0.out]; exact rep_leaf ⟨by decide, by decide, by decide, by decide, by decide, by decide, by decide⟩) (by rw [← HC0.out]; exact below_drew (fin7 HB4.out (Nat.le_succ _) _ _ _ _ _ _ _))

set_option maxRecDepth 100000 in
set_option maxHeartbeats 4000000 in
theorem rr_int (left : Nat) (s : St) (x : Value) (w : World) (B : Nat) (hB : B ≤ w.heap.size) (h : RV w B s x) (hq : (rUint s).1.2 = false ∧ (rUint s).2 = 1) :
    Calls Tryz.prog 83 #[x, .int .i64 (left : Nat)] w (RRead (left) s B w) := by
  have HP : Hid (pv (left) s = if (rUint (rUint s).1).1.2 = true then none else some ((rUint (rUint s).1).1, .mk 1 (unzz (rUint (rUint s).1).2) 0 ⟨#[]⟩ [])) := Lib.hid (by rw [pv_eq, if_neg (by rw [hq.1, hq.2]; simp), if_neg (by rw [hq.2]; decide), if_pos hq.2] <;> rfl)
  have HQQ := Lib.hid hq
  clear hq
  obtain ⟨⟨v, rfl, hv, hf⟩, hb, hl⟩ := h
  obtain ⟨l, bad⟩ := s
  simp only at *
  obtain ⟨W0, hW0, hq, hqr, hx, hb0, hz0⟩ := three_boxes w v bad
  have hp0 : RP W0 B v l := RP.below ⟨hv, hf, hb, hl⟩ hb0 hB
  have HU := Lib.hid (rruint_any (l, bad) (.agg #[v, .bool bad]) W0 B (by omega) ⟨⟨v, rfl, hp0.1, hf⟩, hb, hl⟩)
  have HBY := Lib.hid (rUint_byt (s := (l, bad)) hb hl)
  have HQ := Lib.hid hq
  have HQR := Lib.hid hqr
  have HX := Lib.hid hx
  have HB0 := Lib.hid hb0
  have HST := Lib.hid hp0.store
  clear hv hf hb hl hx hq hqr hb0 hp0
  generalize rUint (l, bad) = q at *
  obtain ⟨⟨l1, bad1⟩, k⟩ := q
  simp only at *
  have HZ := Lib.hid (zz_unzz (rUint (l1, bad1)).2 (rUint_val HBY.out.1))
  have HI := Lib.hid fun (W : World) (x : Value) (hW : B ≤ W.heap.size) (hx : RV W B (l1, bad1) x) => rrint_any (l1, bad1) x W B hW hx
  generalize rUint (l1, bad1) = z at *
  obtain ⟨⟨l4, bad4⟩, zx⟩ := z
  simp only at *
  generalize unzz zx = vn at *
  obtain ⟨c0, hc0⟩ : ∃ c0, c0 = w.heap.size := ⟨_, rfl⟩
  rw [← hc0] at HQ HQR HX HB0 hz0 hB
  obtain ⟨a0, a1, af0, af1⟩ := HQ.out.cells
  replace hW0 := Lib.hid hW0
  have HC0 := Lib.hid hc0
  clear hc0
  go_enter Tryz.func83, Tryz.ntmps83
  go_upto_region 1 with fail
  rw [← hW0.out, ← HC0.out]
  go_wp2_with fail
  refine HU.out.mono ?_
  rintro e w1 ⟨y, rfl, ⟨⟨v1, rfl, hv1, hf1⟩, hb1, hl1⟩, hbl⟩
  simp only at hv1 hf1 hb1 hl1
  have hp1 : RP w1 B v1 l1 := ⟨hv1, hf1, hb1, hl1⟩
  have hst1 := hp1.store
  clear hv1 hf1 hb1 hl1 a0 a1 af0 af1
  have hzw := hbl.size
  have hq1 := HQ.out.later hbl (by omega)
  have hqr1 := HQR.out.later hbl (by omega)
  have hx1 := HX.out.later hbl (by omega)
  obtain ⟨b1, hb1⟩ : ∃ b1, b1 = w1.heap.size := ⟨_, rfl⟩
  obtain ⟨W2, hW2⟩ : ∃ W2, W2 = ((w1.setCell ⟨c0, 0, none⟩ v1).setCell ⟨c0, 1, none⟩ (.bool bad1)).alloc (.cells #[.int .i64 0, .int .i64 0, .float .f64 0, .string ⟨#[]⟩, .slice none 0 0] 30) := ⟨_, rfl⟩
  have hs2 : Below c0 w1 ((w1.setCell ⟨c0, 0, none⟩ v1).setCell ⟨c0, 1, none⟩ (.bool bad1)) := below_set2 (below_set2 (Below.refl _ _) (Nat.le_refl _) _ _) (Nat.le_refl _) _ _
  have hzs : ((w1.setCell ⟨c0, 0, none⟩ v1).setCell ⟨c0, 1, none⟩ (.bool bad1)).heap.size = b1 := by rw [hb1]; simp [World.setCell]
  have hb12 : Below c0 w1 W2 := by rw [hW2]; exact hs2.alloc (by omega) _
  have e2 : ∀ b, b < b1 → W2.heap[b]? = ((w1.setCell ⟨c0, 0, none⟩ v1).setCell ⟨c0, 1, none⟩ (.bool bad1)).heap[b]? := fun b hb => by rw [hW2]; exact heap_alloc_old _ _ (by rw [hzs]; exact hb)
  have HQ2 : Hid (QB W2 c0 v1 bad1) := Lib.hid ((e2 c0 (by omega)).trans (qb_set hq1))
  have HQR2 : Hid (QB W2 (c0 + 1) (.slice none 0 0) false) := Lib.hid ((e2 _ (by omega)).trans (qb_far (qb_far hqr1 (by omega) _) (by omega) _))
  have HX2 : Hid (BoxAt W2 (c0 + 1 + 1) 0 0 0 ⟨#[]⟩ none 0 0) := Lib.hid ((e2 _ (by omega)).trans (Vt.box_far (Vt.box_far hx1 (by omega) _) (by omega) _))
  have HV2 : Hid (BoxAt W2 b1 0 0 0 ⟨#[]⟩ none 0 0) := Lib.hid (by rw [hW2, ← hzs]; exact BoxAt.new ..)
  have hz2 : W2.heap.size = b1 + 1 := by rw [hW2, World.size_alloc, hzs]
  have HP2 := Lib.hid (hp1.below hb12 hB)
  have HB2 := Lib.hid (HB0.out.trans ((hbl.mono (by omega)).trans hb12))
  obtain ⟨a0, a1, af0, af1⟩ := hq1.cells
  have hlt3 : c0 + 1 + 1 < b1 := by omega
  clear hs2 hzs hb12 e2 hp1 hqr1 hx1 hbl hzw hq1
  replace hW2 := Lib.hid hW2
  have HB1 := Lib.hid hb1
  go_upto_region 3 with fail
  rw [← hW2.out, ← HB1.out]
  clear a0 a1 af0 af1 hst1 hb1
  have hst := HP2.out.store
  obtain rfl : bad1 = false := HQQ.out.1
  have k1 : decide ((k : Int) > 4) = false := decide_eq_false (by have := HQQ.out.2; omega)
  have k2 : decide ((4 : Int) < (k : Int)) = false := decide_eq_false (by have := HQQ.out.2; omega)
  have k3 : decide (4 < k) = false := decide_eq_false (by have := HQQ.out.2; omega)
  have hwk : IntKind.i64.wrap (k : Int) = (k : Int) := by have := HQQ.out.2; rw [IntKind.wrap_i64]; omega
  have e1 : ((k : Int) == 1) = true := beq_iff_eq.2 (by have := HQQ.out.2; omega)
  have e2 : ((k : Int) == 2) = false := beq_eq_false_iff_ne.2 (by have := HQQ.out.2; omega)
  have e3 : ((k : Int) == 3) = false := beq_eq_false_iff_ne.2 (by have := HQQ.out.2; omega)
  have e4 : ((k : Int) == 4) = false := beq_eq_false_iff_ne.2 (by have := HQQ.out.2; omega)
  have HK0 : Hid ((k : Int) = 1) := Lib.hid (by have := HQQ.out.2; omega)
  obtain ⟨W3, hW3⟩ : ∃ W3, W3 = W2.setCell ⟨b1, 0, none⟩ (.int .i64 (k : Int)) := ⟨_, rfl⟩
  have hs3 : Below c0 W2 W3 := by rw [hW3]; exact below_set2 (Below.refl _ _) (by omega) _ _
  have HQ3 : Hid (QB W3 c0 v1 false) := Lib.hid (by rw [hW3]; exact qb_far HQ2.out (by omega) _)
  have HQR3 : Hid (QB W3 (c0 + 1) (.slice none 0 0) false) := Lib.hid (by rw [hW3]; exact qb_far HQR2.out (by omega) _)
  have HX3 : Hid (BoxAt W3 (c0 + 1 + 1) 0 0 0 ⟨#[]⟩ none 0 0) := Lib.hid (by rw [hW3]; exact Vt.box_far HX2.out (by omega) _)
  have HV3 : Hid (BoxAt W3 b1 k 0 0 ⟨#[]⟩ none 0 0) := Lib.hid (by rw [hW3]; exact box_set0 HV2.out _)
  have hz3 : W3.heap.size = b1 + 1 := by rw [hW3]; simpa [World.setCell] using hz2
  have HP3 := Lib.hid (HP2.out.below hs3 hB)
  have HB3 := Lib.hid (HB2.out.trans hs3)
  clear hs3
  obtain ⟨a0, a1, af0, af1⟩ := HQ2.out.cells
  obtain ⟨d0, d1, d2, d3, d4⟩ := HV2.out.cells
  have m0 := Vt.box_free HV2.out 0
  have m1 := Vt.box_free HV2.out 1
  have m2 := Vt.box_free HV2.out 2
  have m3 := Vt.box_free HV2.out 3
  have m4 := Vt.box_free HV2.out 4
  have hz2x := hz2
  clear hz2x
  replace hW3 := Lib.hid hW3
  go_upto_region 6 with fail
  rw [← hW3.out]
  clear a0 a1 af0 af1 d0 d1 d2 d3 d4 m0 m1 m2 m3 m4 hst k1 k2 k3 hz2
  have hst := HP3.out.store
  obtain ⟨a0, a1, af0, af1⟩ := HQ3.out.cells
  go_wp2_with fail
  refine (HI.out W3 _ (by omega) ⟨⟨v1, rfl, HP3.out.1, HP3.out.2.1⟩, HP3.out.2.2⟩).mono ?_
  rintro e w4 ⟨y, rfl, ⟨⟨v4, rfl, hv4, hf4⟩, hb4, hl4⟩, hbl4⟩
  simp only at hv4 hf4 hb4 hl4
  have hp4 : RP w4 B v4 l4 := ⟨hv4, hf4, hb4, hl4⟩
  have hst4w := hp4.store
  have hz4w := hbl4.size
  have hq4 := HQ3.out.later hbl4 (by omega)
  have hqr4 := HQR3.out.later hbl4 (by omega)
  have hx4 := HX3.out.later hbl4 (by omega)
  have hv4b := HV3.out.later hbl4 (by omega)
  have hbw4 := HB3.out.trans (hbl4.mono (by omega))
  clear hv4 hf4 hb4 hl4 a0 a1 af0 af1 hst
  obtain ⟨a0, a1, af0, af1⟩ := hq4.cells
  obtain ⟨W4, hW4⟩ : ∃ W4, W4 = ((w4.setCell ⟨c0, 0, none⟩ v4).setCell ⟨c0, 1, none⟩ (.bool bad4)).setCell ⟨b1, 1, none⟩ (.int .i64 vn) := ⟨_, rfl⟩
  have hs4 : Below c0 w4 W4 := by rw [hW4]; exact below_set2 (below_set2 (below_set2 (Below.refl _ _) (Nat.le_refl _) _ _) (Nat.le_refl _) _ _) (by omega) _ _
  have HQ4 : Hid (QB W4 c0 v4 bad4) := Lib.hid (by rw [hW4]; exact qb_far (qb_set hq4) (by omega) _)
  have HQR4 : Hid (QB W4 (c0 + 1) (.slice none 0 0) false) := Lib.hid (by rw [hW4]; exact qb_far (qb_far (qb_far hqr4 (by omega) _) (by omega) _) (by omega) _)
  have HX4 : Hid (BoxAt W4 (c0 + 1 + 1) 0 0 0 ⟨#[]⟩ none 0 0) := Lib.hid (by rw [hW4]; exact Vt.box_far (Vt.box_far (Vt.box_far hx4 (by omega) _) (by omega) _) (by omega) _)
  have HV4 : Hid (BoxAt W4 b1 k vn 0 ⟨#[]⟩ none 0 0) := Lib.hid (by rw [hW4]; exact box_set1 (Vt.box_far (Vt.box_far hv4b (by omega) _) (by omega) _) _)
  have HP4 := Lib.hid (hp4.below hs4 hB)
  have HB4 := Lib.hid (hbw4.trans hs4)
  obtain ⟨d0, d1, d2, d3, d4⟩ := hv4b.cells
  have m0 := Vt.box_free hv4b 0
  have m1 := Vt.box_free hv4b 1
  have m2 := Vt.box_free hv4b 2
  have m3 := Vt.box_free hv4b 3
  have m4 := Vt.box_free hv4b 4
  have hltb : b1 < w4.heap.size := hv4b.lt
  have hne1 : ¬ (b1 = c0) := by omega
  have hne4 : ¬ (c0 = b1) := by omega
  clear hs4 hp4 hq4 hqr4 hx4 hv4b hbw4 hbl4
  replace hW4 := Lib.hid hW4
  go_upto_region 36 with fail
  rw [← hW4.out]
  clear a0 a1 af0 af1 d0 d1 d2 d3 d4 m0 m1 m2 m3 m4 hst4w hltb hne1 hne4
  obtain ⟨a0, a1, af0, af1⟩ := HQ4.out.cells
  obtain ⟨q0, q1, qf0, qf1⟩ := HQR4.out.cells
  obtain ⟨r0, r1, r2, r3, r4⟩ := HX4.out.cells
  have f0 := Vt.box_free HX4.out 0
  have f1 := Vt.box_free HX4.out 1
  have f2 := Vt.box_free HX4.out 2
  have f3 := Vt.box_free HX4.out 3
  have f4 := Vt.box_free HX4.out 4
  obtain ⟨d0, d1, d2, d3, d4⟩ := HV4.out.cells
  have m0 := Vt.box_free HV4.out 0
  have m1 := Vt.box_free HV4.out 1
  have m2 := Vt.box_free HV4.out 2
  have m3 := Vt.box_free HV4.out 3
  have m4 := Vt.box_free HV4.out 4
  have hne1 : ¬ (b1 = c0) := by omega
  have hne2 : ¬ (b1 = c0 + 1) := by omega
  have hne3 : ¬ (b1 = c0 + 1 + 1) := by omega
  have hne4 : ¬ (c0 = b1) := by omega
  have hne5 : ¬ (c0 + 1 = b1) := by omega
  have hne6 : ¬ (c0 + 1 + 1 = b1) := by omega
  have hlt4 : b1 < W4.heap.size := HV4.out.lt
  have hst4 := HP4.out.store
  cases bad4 with
  | true =>
    have HN : pv (left) (l, bad) = none := by rw [HP.out]; rfl
    go_wp2_with fail
    refine bodyPost_ret (v := .tuple #[.agg #[v4, .bool true], .agg #[.int .i64 0, .int .i64 0, .float .f64 0, .string ⟨#[]⟩, .slice none 0 0], .bool false]) (by simp [results, Tryz.results83, go_sem, q0, q1, r0, r1, r2, r3, r4]) rfl ?_
    exact rread_no (s' := (l4, true)) HN (HP4.out.below (C := c0) (fin7 (Below.refl _ _) (Nat.le_succ _) _ _ _ _ _ _ _) hB) (by rw [← HC0.out]; exact fin7 HB4.out (Nat.le_succ _) _ _ _ _ _ _ _)
  | false =>
    have HY : pv (left) (l, bad) = some ((l4, false), .mk 1 vn 0 ⟨#[]⟩ []) := by rw [HP.out]; rfl
    go_wp2_with fail
    go_region
    go_wp2_with fail
    refine bodyPost_ret (v := .tuple #[.agg #[v4, .bool false], .agg #[.int .i64 (k : Int), .int .i64 vn, .float .f64 0, .string ⟨#[]⟩, .slice none 0 0], .bool true]) (by simp [results, Tryz.results83, go_sem, q0, q1, r0, r1, r2, r3, r4]) rfl ?_
    exact rread_yes (s' := (l4, false)) HY (HP4.out.below (C := c0) (below_drew (fin7 (Below.refl _ _) (Nat.le_succ _) _ _ _ _ _ _ _)) hB) (by rw [HK0.out]; exact rep_leaf ⟨by decide, by decide, HZ.out.2.1, HZ.out.2.2, by decide, by decide, by decide⟩) (by rw [← HC0.out]; exact below_drew (fin7 HB4.out (Nat.le_succ _) _ _ _ _ _ _ _))

end Rd
end Go.Proofs.YtcbddebmmaflgaaGreatDoor
