/- value.read of a list; value.read and value.Read of whatever bytes. -/
/- value.read of a list; value.read and value.Read of whatever bytes. -/
/- value.read and value.Read of whatever bytes. -/
/- The closures of event.Read. -/
/- event.Read: nothing there. -/
import Derived.Laws.Rows
import Derived.Laws.IdiomRangeMap
import Derived.Test.YtcbddebmmaflgaaGreatDoorMibc
import Derived.Test.YtcbddebmmaflgaaGreatDoorMibb
namespace Go.Proofs.YtcbddebmmaflgaaGreatDoor
open Go.RowKit
set_option linter.unusedVariables false
set_option linter.unusedSimpArgs false
namespace Rd
open _root_.Go.Proofs.YtcbddebmmaflgaaGreatDoor.Nm (ret_int ret_bool bitsW ofW okW)
open Vt (VT Rep BoxAt below_drew put5 KidsAt HeadOk kindV of_any kv0 kv1 kv2 kv3 kv4)
open Cm (OnlyAt rowOf)
open Cn (BRd brd_own VsAt VNew)
attribute [local go_sem] Vt.run_store_float

/-- The loop over a list's elements. -/
def LInv (left : Nat) (w : World) (g b1 : Nat) (k : Int) (nn : Nat) (sz : St) (okv iv : Value) (wr : World) : Prop :=
  ∃ (okb : Bool) (j n : Nat) (A : Option Addr) (cap : Nat) (sj : St), okv = .bool okb ∧ iv = .int .u64 (j : Nat) ∧ j ≤ nn ∧ BoxAt wr w.heap.size 0 0 0 ⟨#[]⟩ none 0 0 ∧ BoxAt wr b1 k 0 0 ⟨#[]⟩ A n cap ∧ RS wr g sj ∧ OnlyAt w wr g none ∧
    (okb = true → n = j ∧ ∃ acc, VsAt wr (b1 + 1) A cap j acc ∧ rep (pv left) nn sz = (rep (pv left) (nn - j) sj).map (fun q => (q.1, acc ++ q.2)) ∧ j + sj.1.length ≤ 1099511627776) ∧
    (okb = false → rep (pv left) nn sz = none)
theorem vread_open {left : Nat} {s : St} {w w' : World} {g : Nat} {r : Ending} (h : VRead left s w g r w') : ∃ (okb : Bool) (k n : Int) (f : Nat) (str : ByteArray) (A : Option Addr) (m c : Nat) (tt : VT) (s' : St),
    r = .returned (.tuple #[.agg #[.int .i64 k, .int .i64 n, .float .f64 f, .string str, .slice A m c], .bool okb]) ∧ Rep w' w.heap.size w'.heap.size tt (.agg #[.int .i64 k, .int .i64 n, .float .f64 f, .string str, .slice A m c]) ∧ RS w' g s' ∧ OnlyAt w w' g none ∧
    (okb = true → pv left s = some (s', tt)) ∧ (okb = false → pv left s = none) := by
  unfold VRead at h
  cases hp : pv left s with
  | none =>
    rw [hp] at h
    obtain ⟨h1, ⟨s', h2⟩, h3⟩ := h
    exact ⟨false, 0, 0, 0, ⟨#[]⟩, none, 0, 0, .mk 0 0 0 ⟨#[]⟩ [], s', h1, rep_leaf ⟨by decide, by decide, by decide, by decide, by decide, by decide, by decide⟩, h2, h3, fun h => Bool.noConfusion h, fun _ => rfl⟩
  | some q =>
    obtain ⟨s', tt⟩ := q
    rw [hp] at h
    obtain ⟨k, n, f, str, A, m, c, h1, h2, h3, h4⟩ := h
    exact ⟨true, k, n, f, str, A, m, c, tt, s', h1, h2, h3, h4, fun _ => rfl, fun h => Bool.noConfusion h⟩
theorem vs_rep {wr w : World} {b1 : Nat} {acc : List VT} {A : Option Addr} {cap : Nat} (hvs : VsAt wr (b1 + 1) A cap acc.length acc) (hb : w.heap.size < b1) (d0 d1 d2 d3 d4 : Value) :
    Rep (put5 wr w.heap.size 0 d0 d1 d2 d3 d4) w.heap.size (put5 wr w.heap.size 0 d0 d1 d2 d3 d4).heap.size (.mk 4 0 0 ⟨#[]⟩ acc) (.agg #[.int .i64 4, .int .i64 0, .float .f64 0, .string ⟨#[]⟩, .slice A acc.length cap]) := by
  obtain ⟨hk2, hl2, hc2, -⟩ := hvs.kids
  rw [Vt.put5_size]
  exact (Rep.close ⟨by decide, by decide, by decide, by decide, by decide, by decide, hc2⟩ hl2 (hk2.keep fun b o hb _ => Vt.put5_cell _ _ _ _ _ _ _ _ b o (by omega))).more (by omega) (Nat.le_refl _)
theorem ownsRow_alloc {w : World} {base : Nat} {A : Option Addr} {cap n : Nat} {acc : List VT} (h : VsAt w base A cap n acc) : ∃ xs, acc.length = n ∧ xs.length = n * 5 ∧ w.ownsRow base 30 5 (.slice A n cap) n xs ∧ ∀ i (h : i < acc.length), VNew w base (rowOf A) xs i acc[i] := by
  obtain ⟨h0, xs, h1, h2⟩ := h
  exact ⟨xs, h0, h1.1, h1, h2⟩

set_option maxRecDepth 100000 in
set_option maxHeartbeats 2000000 in
theorem rw_list0 (g : Nat) (s : St) (w : World) (h : RS w g s) (hq : (rUint s).1.2 = false ∧ (rUint s).2 = 4) :
    Calls Tryz.prog 79 #[.pointer (some ⟨g, 0, none⟩), .int .i64 (0 : Nat)] w (VRead (0) s w g) := by
  have HP : Hid (pv (0) s = none) := Lib.hid (by rw [pv_eq, if_neg (by rw [hq.1, hq.2]; simp), if_neg (by rw [hq.2]; decide), if_neg (by rw [hq.2]; decide), if_neg (by rw [hq.2]; decide), if_neg (by rw [hq.2]; decide)] <;> rfl)
  have hg := h.lt
  obtain ⟨W0, hW0⟩ : ∃ W0, W0 = w.alloc (.cells #[.int .i64 0, .int .i64 0, .float .f64 0, .string ⟨#[]⟩, .slice none 0 0] 30) := ⟨_, rfl⟩
  have hx0 : BoxAt W0 w.heap.size 0 0 0 ⟨#[]⟩ none 0 0 := by rw [hW0]; exact BoxAt.new ..
  have hr0 : RS W0 g s := by rw [hW0]; exact rs_alloc h _
  have ho0 : OnlyAt w W0 g none := by rw [hW0]; exact only_alloc (OnlyAt.of_below (Below.refl _ _)) _
  have HU := Lib.hid (uint_any g s W0 hr0)
  have HX0 := Lib.hid hx0
  have HO0 := Lib.hid ho0
  have HBY := Lib.hid (rUint_byt h.2.1 h.2.2)
  clear h hr0 hx0 ho0
  have HQ := Lib.hid hq
  clear hq
  generalize rUint s = q at *
  obtain ⟨s1, k⟩ := q
  simp only at *
  have k1 : decide ((k : Int) > 4) = false := decide_eq_false (by have := HQ.out.2; omega)
  have k2 : decide ((4 : Int) < (k : Int)) = false := decide_eq_false (by have := HQ.out.2; omega)
  have k3 : decide (4 < k) = false := decide_eq_false (by have := HQ.out.2; omega)
  have hwk : IntKind.i64.wrap (k : Int) = (k : Int) := by have := HQ.out.2; rw [IntKind.wrap_i64]; omega
  have HKV : Hid (kindV (k : Int) = .iface 143 (.agg #[])) := Lib.hid (by rw [HQ.out.2]; exact kv4)
  have hk0 : (k : Int) = 4 := by have := HQ.out.2; omega
  have HK0 := Lib.hid hk0
  clear hk0
  have ta0 := Vt.ta_list_integer
  have ta1 := Vt.ta_list_float
  have ta2 := Vt.ta_list_text
  have ta3 := Vt.ta_list_list
  have HI := Lib.hid fun W (hW : RS W g s1) => uint_any g s1 W hW
  have HBZ := Lib.hid (rUint_byt HBY.out.1 HBY.out.2)
  have hnn := rUint_val HBY.out.1
  generalize rUint s1 = z at *
  obtain ⟨sz, nn⟩ := z
  simp only at *
  replace hW0 := Lib.hid hW0
  go_enter Tryz.func79, Tryz.ntmps79
  go_upto_region 1 with fail
  rw [← hW0.out]
  go_wp2_with fail
  refine HU.out.mono ?_
  rintro e w1 ⟨rfl, hr1, ho1⟩
  have hx1 := box_only HX0.out ho1 (by omega)
  have hlt1 := hx1.lt
  have HX1 := Lib.hid hx1
  have HR1 := Lib.hid hr1
  have HO1 := Lib.hid (HO0.out.trans ho1)
  clear hx1 hr1 ho1
  go_wp2_with fail
  refine (rs_ok HR1.out).mono ?_
  rintro e w2 ⟨rfl, rfl⟩
  rw [HQ.out.1]
  obtain ⟨W2, hW2⟩ : ∃ W2, W2 = w1.alloc (.cells #[.int .i64 (k : Int), .int .i64 0, .float .f64 0, .string ⟨#[]⟩, .slice none 0 0] 30) := ⟨_, rfl⟩
  have hv2 : BoxAt W2 w1.heap.size k 0 0 ⟨#[]⟩ none 0 0 := by rw [hW2]; exact BoxAt.new ..
  have ho2 : OnlyAt w1 W2 g none := by rw [hW2]; exact only_alloc (OnlyAt.of_below (Below.refl _ _)) _
  have hr2 : RS W2 g s1 := by rw [hW2]; exact rs_alloc HR1.out _
  have hx2 := box_only HX1.out ho2 (by omega)
  have hlt2 := hv2.lt
  obtain ⟨b1, hb1⟩ : ∃ b1, b1 = w1.heap.size := ⟨_, rfl⟩
  rw [← hb1] at hv2 hlt1 hlt2
  have HV2 := Lib.hid hv2
  have HX2 := Lib.hid hx2
  have HR2 := Lib.hid hr2
  have HO2 := Lib.hid (HO1.out.trans ho2)
  clear ho2 hr2 hx2 hv2
  replace hW2 := Lib.hid hW2
  have HB1 := Lib.hid hb1
  clear hb1
  go_upto_region 5 with fail
  rw [← hW2.out, ← HB1.out]
  obtain ⟨d0, d1, d2, d3, d4⟩ := HV2.out.cells
  go_wp2_with fail
  refine (of_any (k : Int) W2).mono ?_
  rintro e w3 ⟨rfl, rfl⟩
  rw [HKV.out]
  clear d0 d1 d2 d3 d4
  go_wp2_with fail
  refine (HI.out _ HR2.out).mono ?_
  rintro e w3 ⟨rfl, hr3, ho3⟩
  have hv3 := box_only HV2.out ho3 (by omega)
  have hx3 := box_only HX2.out ho3 (by omega)
  have hlt3 := hv3.lt
  have HV3 := Lib.hid hv3
  have HX3 := Lib.hid hx3
  have HR3 := Lib.hid hr3
  have HO3 := Lib.hid (HO2.out.trans ho3)
  clear hv3 hx3 hr3 ho3
  go_wp2_with fail
  go_loopw [8, 13] (fun okv iv wr => okv = .bool false ∧ wr = w3) (fun _ _ _ => 0)
  case atStart => exact ⟨rfl, rfl⟩
  case round =>
    obtain ⟨rfl, rfl⟩ := hrel
    obtain ⟨r0, r1, r2, r3, r4⟩ := HX3.out.cells
    have f0 := Vt.box_free HX3.out 0
    have f1 := Vt.box_free HX3.out 1
    have f2 := Vt.box_free HX3.out 2
    have f3 := Vt.box_free HX3.out 3
    have f4 := Vt.box_free HX3.out 4
    go_wp2_with fail
    refine bodyPost_ret (v := .tuple #[.agg #[.int .i64 0, .int .i64 0, .float .f64 0, .string ⟨#[]⟩, .slice none 0 0], .bool false]) (by simp [results, Tryz.results79, go_sem, r0, r1, r2, r3, r4]) rfl ?_
    exact vread_no HP.out (rs_put5 HR3.out (by omega) _ _ _ _ _) (only_put5 HO3.out (Nat.le_refl _) _ _ _ _ _)

end Rd
end Go.Proofs.YtcbddebmmaflgaaGreatDoor
namespace Go.Proofs.YtcbddebmmaflgaaGreatDoor
open Go.RowKit
set_option linter.unusedVariables false
set_option linter.unusedSimpArgs false
namespace Rd
open _root_.Go.Proofs.YtcbddebmmaflgaaGreatDoor.Nm (ret_int ret_bool bitsW ofW okW)
open Vt (VT Rep BoxAt below_drew put5 KidsAt HeadOk kindV of_any kv0 kv1 kv2 kv3 kv4)
open Cm (OnlyAt rowOf)
open Cn (BRd brd_own VsAt VNew)
attribute [local go_sem] Vt.run_store_float

set_option maxRecDepth 100000 in
set_option maxHeartbeats 16000000 in
theorem rw_list (left : Nat) (g : Nat) (s : St) (w : World) (h : RS w g s) (hq : (rUint s).1.2 = false ∧ (rUint s).2 = 4) (hL : left ≤ 1000)
    (IH : Hid (∀ (g : Nat) (s : St) (w : World), RS w g s → Calls Tryz.prog 79 #[.pointer (some ⟨g, 0, none⟩), .int .i64 (left : Nat)] w (VRead left s w g))) :
    Calls Tryz.prog 79 #[.pointer (some ⟨g, 0, none⟩), .int .i64 (left + 1 : Nat)] w (VRead (left + 1) s w g) := by
  have HP : Hid (pv (left + 1) s = match rep (pv left) (rUint (rUint s).1).2 (rUint (rUint s).1).1 with | none => none | some (s3, ts) => if s3.2 = true then none else some (s3, .mk 4 0 0 ⟨#[]⟩ ts)) := Lib.hid (by rw [pv_eq, if_neg (by rw [hq.1, hq.2]; simp), if_neg (by rw [hq.2]; decide), if_neg (by rw [hq.2]; decide), if_neg (by rw [hq.2]; decide), if_neg (by rw [hq.2]; decide)] <;> rfl)
  have hg := h.lt
  obtain ⟨W0, hW0⟩ : ∃ W0, W0 = w.alloc (.cells #[.int .i64 0, .int .i64 0, .float .f64 0, .string ⟨#[]⟩, .slice none 0 0] 30) := ⟨_, rfl⟩
  have hx0 : BoxAt W0 w.heap.size 0 0 0 ⟨#[]⟩ none 0 0 := by rw [hW0]; exact BoxAt.new ..
  have hr0 : RS W0 g s := by rw [hW0]; exact rs_alloc h _
  have ho0 : OnlyAt w W0 g none := by rw [hW0]; exact only_alloc (OnlyAt.of_below (Below.refl _ _)) _
  have HU := Lib.hid (uint_any g s W0 hr0)
  have HX0 := Lib.hid hx0
  have HO0 := Lib.hid ho0
  have HBY := Lib.hid (rUint_byt h.2.1 h.2.2)
  clear h hr0 hx0 ho0
  have HQ := Lib.hid hq
  clear hq
  generalize rUint s = q at *
  obtain ⟨s1, k⟩ := q
  simp only at *
  have k1 : decide ((k : Int) > 4) = false := decide_eq_false (by have := HQ.out.2; omega)
  have k2 : decide ((4 : Int) < (k : Int)) = false := decide_eq_false (by have := HQ.out.2; omega)
  have k3 : decide (4 < k) = false := decide_eq_false (by have := HQ.out.2; omega)
  have hwk : IntKind.i64.wrap (k : Int) = (k : Int) := by have := HQ.out.2; rw [IntKind.wrap_i64]; omega
  have HKV : Hid (kindV (k : Int) = .iface 143 (.agg #[])) := Lib.hid (by rw [HQ.out.2]; exact kv4)
  have hk0 : (k : Int) = 4 := by have := HQ.out.2; omega
  have HK0 := Lib.hid hk0
  clear hk0
  have ta0 := Vt.ta_list_integer
  have ta1 := Vt.ta_list_float
  have ta2 := Vt.ta_list_text
  have ta3 := Vt.ta_list_list
  have HI := Lib.hid fun W (hW : RS W g s1) => uint_any g s1 W hW
  have HBZ := Lib.hid (rUint_byt HBY.out.1 HBY.out.2)
  have hnn := rUint_val HBY.out.1
  generalize rUint s1 = z at *
  obtain ⟨sz, nn⟩ := z
  simp only at *
  replace hW0 := Lib.hid hW0
  go_enter Tryz.func79, Tryz.ntmps79
  go_upto_region 1 with fail
  rw [← hW0.out]
  go_wp2_with fail
  refine HU.out.mono ?_
  rintro e w1 ⟨rfl, hr1, ho1⟩
  have hx1 := box_only HX0.out ho1 (by omega)
  have hlt1 := hx1.lt
  have HX1 := Lib.hid hx1
  have HR1 := Lib.hid hr1
  have HO1 := Lib.hid (HO0.out.trans ho1)
  clear hx1 hr1 ho1
  go_wp2_with fail
  refine (rs_ok HR1.out).mono ?_
  rintro e w2 ⟨rfl, rfl⟩
  rw [HQ.out.1]
  obtain ⟨W2, hW2⟩ : ∃ W2, W2 = w1.alloc (.cells #[.int .i64 (k : Int), .int .i64 0, .float .f64 0, .string ⟨#[]⟩, .slice none 0 0] 30) := ⟨_, rfl⟩
  have hv2 : BoxAt W2 w1.heap.size k 0 0 ⟨#[]⟩ none 0 0 := by rw [hW2]; exact BoxAt.new ..
  have ho2 : OnlyAt w1 W2 g none := by rw [hW2]; exact only_alloc (OnlyAt.of_below (Below.refl _ _)) _
  have hr2 : RS W2 g s1 := by rw [hW2]; exact rs_alloc HR1.out _
  have hx2 := box_only HX1.out ho2 (by omega)
  have hlt2 := hv2.lt
  obtain ⟨b1, hb1⟩ : ∃ b1, b1 = w1.heap.size := ⟨_, rfl⟩
  rw [← hb1] at hv2 hlt1 hlt2
  have HV2 := Lib.hid hv2
  have HX2 := Lib.hid hx2
  have HR2 := Lib.hid hr2
  have HO2 := Lib.hid (HO1.out.trans ho2)
  clear ho2 hr2 hx2 hv2
  replace hW2 := Lib.hid hW2
  have HB1 := Lib.hid hb1
  clear hb1
  go_upto_region 5 with fail
  rw [← hW2.out, ← HB1.out]
  obtain ⟨d0, d1, d2, d3, d4⟩ := HV2.out.cells
  go_wp2_with fail
  refine (of_any (k : Int) W2).mono ?_
  rintro e w3 ⟨rfl, rfl⟩
  rw [HKV.out]
  clear d0 d1 d2 d3 d4
  go_wp2_with fail
  refine (HI.out _ HR2.out).mono ?_
  rintro e w3 ⟨rfl, hr3, ho3⟩
  have hv3 := box_only HV2.out ho3 (by omega)
  have hx3 := box_only HX2.out ho3 (by omega)
  have hlt3 := hv3.lt
  have HV3 := Lib.hid hv3
  have HX3 := Lib.hid hx3
  have HR3 := Lib.hid hr3
  have HO3 := Lib.hid (HO2.out.trans ho3)
  clear hv3 hx3 hr3 ho3
  obtain ⟨i0, hi0, hz0, hz1, hz2⟩ := info_parts Vt.Tryz.infoV
  have I1 := Lib.hid hi0; have I2 := Lib.hid hz0; have I3 := Lib.hid hz1; have I4 := Lib.hid hz2
  clear hi0 hz0 hz1 hz2
  have hwl : wrap64 (left : Int) = (left : Int) := by first | (unfold wrap64; omega) | (simp only [wrap64]; omega) | exact IntKind.wrap_i64 _ ▸ by omega
  have hpos : decide (((left + 1 : Nat) : Int) > 0) = true := decide_eq_true (by omega)
  have hpos2 : decide ((0 : Int) < ((left + 1 : Nat) : Int)) = true := decide_eq_true (by omega)
  have hpos3 : decide ((0 : Int) < (left : Int) + 1) = true := decide_eq_true (by omega)
  have hpos4 : (0 : Int) < (left : Int) + 1 := by omega
  go_wp2_with fail
  go_loopw [8, 13] (LInv left w g b1 k nn sz) (fun okv iv _ => match okv with | .bool true => nn + 1 - (intOf iv).toNat | _ => 0)
  case atStart => exact ⟨true, 0, 0, none, 0, sz, rfl, rfl, Nat.zero_le _, HX3.out, HV3.out, HR3.out, HO3.out, fun _ => ⟨rfl, [], Cn.vs_nil _ _, by simp, by have := HBZ.out.2; omega⟩, fun h => Bool.noConfusion h⟩
  case round =>
    obtain ⟨okb0, j, n, A, cap, sj, rfl, rfl, hj, hx, hv, hr, ho, hT, hF⟩ := hrel
    cases okb0 with
    | false =>
      have HN : pv (left + 1) s = none := by rw [HP.out, hF rfl]
      have HX := Lib.hid hx
      have HR := Lib.hid hr
      have HO := Lib.hid ho
      have hltx := hx.lt
      clear hT hF hx hr ho hv
      obtain ⟨r0, r1, r2, r3, r4⟩ := HX.out.cells
      have f0 := Vt.box_free HX.out 0
      have f1 := Vt.box_free HX.out 1
      have f2 := Vt.box_free HX.out 2
      have f3 := Vt.box_free HX.out 3
      have f4 := Vt.box_free HX.out 4
      go_wp2_with fail
      refine bodyPost_ret (v := .tuple #[.agg #[.int .i64 0, .int .i64 0, .float .f64 0, .string ⟨#[]⟩, .slice none 0 0], .bool false]) (by simp [results, Tryz.results79, go_sem, r0, r1, r2, r3, r4]) rfl ?_
      exact vread_no HN (rs_put5 HR.out (by omega) _ _ _ _ _) (only_put5 HO.out (Nat.le_refl _) _ _ _ _ _)
    | true =>
      obtain ⟨hnj, acc, hvs, hrep, hlen40⟩ := hT rfl
      subst hnj
      clear hT hF
      have HVS := Lib.hid hvs
      have HREPE := Lib.hid hrep
      have HX := Lib.hid hx
      have HV := Lib.hid hv
      have HR := Lib.hid hr
      have HO := Lib.hid ho
      have hltv := hv.lt
      have hgl := HR.out.lt
      clear hvs hrep hx hv hr ho
      by_cases hlt : n < nn
      · have HSJ := Lib.hid HR.out.2.1
        obtain ⟨W2x, hW2x⟩ : ∃ W, W = wr.alloc (.cells #[.int .i64 0, .int .i64 0, .float .f64 0, .string ⟨#[]⟩, .slice none 0 0] 30) := ⟨_, rfl⟩
        obtain ⟨bx, hbx⟩ : ∃ bx, bx = wr.heap.size := ⟨_, rfl⟩
        have hz2 : W2x.heap.size = bx + 1 := by rw [hW2x, hbx]; simp
        have hxb : BoxAt W2x bx 0 0 0 ⟨#[]⟩ none 0 0 := by rw [hW2x, hbx]; exact BoxAt.new ..
        have ho2 : OnlyAt wr W2x g none := by rw [hW2x]; exact only_alloc (OnlyAt.of_below (Below.refl _ _)) _
        have hr2 : RS W2x g sj := by rw [hW2x]; exact rs_alloc HR.out _
        have HC := Lib.hid (IH.out g sj W2x hr2)
        have HXB := Lib.hid hxb
        have HO2x := Lib.hid ho2
        have hltv2 : b1 < bx := by rw [hbx]; exact hltv
        clear hr2 hxb ho2
        replace hW2x := Lib.hid hW2x
        have HBX := Lib.hid hbx
        clear hbx
        have hcond : decide ((n : Int) < (nn : Int)) = true := decide_eq_true (by omega)
        go_upto_region 25 with fail
        rw [← hW2x.out, ← HBX.out]
        go_wp2_with fail
        refine HC.out.mono ?_
        intro e w3r hvr
        obtain ⟨okb, k', n', f', s', A', m', c', tt, s2, rfl, hrep2, hr3, ho3, hyes, hno⟩ := vread_open hvr
        clear hvr
        have ho03 := HO2x.out.trans ho3
        have hv3r := box_only HV.out ho03 (by omega)
        have hx3r := box_only HX.out ho03 (by omega)
        have hxb3 := box_only HXB.out ho3 (by omega)
        have hz3 := ho3.size
        obtain ⟨W3x, hW3x⟩ : ∃ W3x, W3x = ((((w3r.setCell ⟨bx, 0, none⟩ (.int .i64 k')).setCell ⟨bx, 1, none⟩ (.int .i64 n')).setCell ⟨bx, 2, none⟩ (.float .f64 f')).setCell ⟨bx, 3, none⟩ (.string s')).setCell ⟨bx, 4, none⟩ (.slice A' m' c') := ⟨_, rfl⟩
        have hW3p : W3x = put5 w3r bx 0 (.int .i64 k') (.int .i64 n') (.float .f64 f') (.string s') (.slice A' m' c') := hW3x
        obtain ⟨W4, hW4⟩ : ∃ W4, W4 = W3x.alloc (.cells #[.int .i64 k', .int .i64 n', .float .f64 f', .string s', .slice A' m' c'] 30) := ⟨_, rfl⟩
        have hW4' : W4 = (put5 w3r bx 0 (.int .i64 k') (.int .i64 n') (.float .f64 f') (.string s') (.slice A' m' c')).alloc (.cells #[.int .i64 k', .int .i64 n', .float .f64 f', .string s', .slice A' m' c'] 30) := by rw [hW4, hW3p]
        obtain ⟨bw, hbw⟩ : ∃ bw, bw = w3r.heap.size := ⟨_, rfl⟩
        have hz4 : W4.heap.size = bw + 1 := by rw [hW4', World.size_alloc, Vt.put5_size, hbw]
        have hbx := HBX.out
        have ho04 : OnlyAt wr W4 g none := by rw [hW4']; exact only_alloc (only_put5 ho03 (by omega) _ _ _ _ _) _
        have e4 : ∀ b, b < w3r.heap.size → b ≠ bx → W4.heap[b]? = w3r.heap[b]? := fun b hb hne => by rw [hW4']; exact (heap_alloc_old _ _ (by rw [Vt.put5_size]; exact hb)).trans (Vt.put5_other _ _ _ _ _ _ _ _ b hne)
        have HV4 : Hid (BoxAt W4 b1 k 0 0 ⟨#[]⟩ A n cap) := Lib.hid (box_only HV.out ho04 (by omega))
        have HX4 : Hid (BoxAt W4 w.heap.size 0 0 0 ⟨#[]⟩ none 0 0) := Lib.hid (box_only HX.out ho04 (by omega))
        have HR4 : Hid (RS W4 g s2) := Lib.hid (by rw [hW4']; exact rs_alloc (rs_put5 hr3 (by omega) _ _ _ _ _) _)
        have HO4 : Hid (OnlyAt w W4 g none) := Lib.hid (HO.out.trans ho04)
        have HREP : Hid (Rep W4 W2x.heap.size w3r.heap.size tt (.agg #[.int .i64 k', .int .i64 n', .float .f64 f', .string s', .slice A' m' c'])) := Lib.hid (hrep2.keep fun b o h1 h2 => World.cell?_of_block (a := ⟨b, o, none⟩) (e4 b h2 (by omega)))
        have K2 : Hid (∀ q u, (#[Value.int .i64 k', .int .i64 n', .float .f64 f', .string s', .slice A' m' c'].toList)[q]? = some u → W4.cell? ((⟨bw, 0, none⟩ : Addr).add q) = some u) := Lib.hid (World.news_of_block (t := 30) (fr := (0, 0)) (by rw [hW4', hbw]; have := heap_alloc_new (put5 w3r bx 0 (.int .i64 k') (.int .i64 n') (.float .f64 f') (.string s') (.slice A' m' c')) (.cells #[.int .i64 k', .int .i64 n', .float .f64 f', .string s', .slice A' m' c'] 30); rw [Vt.put5_size] at this; exact this))
        have hvs4 := vs_only HVS.out ho04 (by omega)
        have HRO := Lib.hid fun r hr => hvs4.lt r hr
        have HRB : Hid (∀ r, rowOf A = some r → r < W2x.heap.size) := Lib.hid fun r hr => by have := (HVS.out.lt r hr).1; omega
        obtain ⟨xs, hlen, hlx, hxo, hxe⟩ := ownsRow_alloc hvs4
        have KO := Lib.hid hxo
        have HXE := Lib.hid hxe
        clear hxe hxo hvs4
        have HYES := Lib.hid hyes
        have HNO := Lib.hid hno
        clear hyes hno
        have KF : Hid (∀ r2 cap4 w5, w5.ownsRow (b1 + 1) 30 5 (.slice (some ⟨r2, 0, none⟩) (n + 1) cap4) (n + 1) (xs ++ #[Value.int .i64 k', .int .i64 n', .float .f64 f', .string s', .slice A' m' c'].toList) → W4.grownBy w5 (rowOf A) → (rowOf A = some r2 ∨ r2 = W4.heap.size) →
            VsAt w5 (b1 + 1) (some ⟨r2, 0, none⟩) cap4 (n + 1) (acc ++ [tt]) ∧ BoxAt w5 b1 k 0 0 ⟨#[]⟩ A n cap ∧ BoxAt w5 w.heap.size 0 0 0 ⟨#[]⟩ none 0 0 ∧ RS w5 g s2 ∧ OnlyAt w w5 g none) := Lib.hid fun r2 cap4 w5 hown5 hgrow5 hat5 => by
          have hb5 : Below (b1 + 1) W4 w5 := ⟨hgrow5.os, hgrow5.tape, hgrow5.output, hgrow5.size, fun b hb => hgrow5.block b (by omega) (fun e => by have := (HRO.out b e.symm).2; omega)⟩
          refine ⟨VsAt.push (cap := cap) (lo := W2x.heap.size) (hi := w3r.heap.size) hlen hlx (fun i h => HXE.out i h) (by omega) HREP.out (by omega) (fun r hr => .inl (HRB.out r hr)) hown5 hgrow5 hat5 (Nat.le_refl _), HV4.out.later hb5 (by omega), HX4.out.later hb5 (by omega), HR4.out.frame hgrow5.size fun x hx => hb5.block x (by omega), ⟨?_, ?_, ?_, ?_, ?_⟩⟩
          · exact hgrow5.os.trans HO4.out.os
          · exact hgrow5.tape.trans HO4.out.tape
          · exact hgrow5.output.trans HO4.out.output
          · exact Nat.le_trans HO4.out.size hgrow5.size
          · exact fun x hx h1 h2 => (hb5.block x (by omega)).trans (HO4.out.block x hx h1 h2)
        have hz2x : W2x.heap.size ≤ bw := by omega
        have hv3x : BoxAt W3x b1 k 0 0 ⟨#[]⟩ A n cap := by rw [hW3p]; exact (Vt.put5_other _ _ _ _ _ _ _ _ b1 (by omega)).trans hv3r
        have hxb3x : BoxAt W3x bx k' n' f' s' A' m' c' := by rw [hW3p]; exact Vt.put5_block _ _ _ _ _ _ _ _ _ _ hxb3
        have hz3x : W3x.heap.size = bw := by rw [hW3p, Vt.put5_size, hbw]
        have HV3X := Lib.hid hv3x
        have HXB3X := Lib.hid hxb3x
        obtain ⟨d0, d1, d2, d3, d4⟩ := hv3r.cells
        obtain ⟨x0, x1, x2, x3, x4⟩ := hxb3.cells
        have m0 := Vt.box_free hxb3 0
        have m1 := Vt.box_free hxb3 1
        have m2 := Vt.box_free hxb3 2
        have m3 := Vt.box_free hxb3 3
        have m4 := Vt.box_free hxb3 4
        have hn40 : n ≤ 1099511627776 := by omega
        have hb3 : bx < w3r.heap.size := hxb3.lt
        have hne1 : ¬ (b1 = bx) := by omega
        have hne2 : ¬ (bx = b1) := by omega
        clear hv3r hx3r hxb3 hrep2 hr3 ho3 ho03 ho04 e4 hW4' hbx hW3p hv3x hxb3x
        replace hW4 := Lib.hid hW4
        have HBW := Lib.hid hbw
        clear hbw
        replace hW3x := Lib.hid hW3x
        have HZ3X := Lib.hid hz3x
        clear hz3x
        go_upto_region 26 with fail
        rw [← hW3x.out]
        clear d0 d1 d2 d3 d4 x0 x1 x2 x3 x4 m0 m1 m2 m3 m4
        obtain ⟨d0, d1, d2, d3, d4⟩ := HV3X.out.cells
        obtain ⟨x0, x1, x2, x3, x4⟩ := HXB3X.out.cells
        go_wp2_with (at_builtin; rw [← hW4.out]; refine wpList_append_lies _ rfl _ _ 28 rfl (b1 + 1) 30 i0 _ 5 64 Tryz.underlying28 I1.out I2.out I3.out I4.out rfl (by decide) (.slice A n cap) n xs rfl KO.out ⟨W3x.heap.size, 0, none⟩ 1 1 #[Value.int .i64 k', .int .i64 n', .float .f64 f', .string s', .slice A' m' c'].toList rfl rfl (by rw [HZ3X.out]; exact K2.out) (by intro u hu; simp at hu; rcases hu with rfl | rfl | rfl | rfl | rfl <;> rfl) (by decide) (by simp only [maxLen]; omega) (by omega) (by omega) _ rfl ?_; intro r2 cap4 w5 hown5 hgrow5 hat5 hrl5; rw [Cm.rowOf_own] at hgrow5 hat5; obtain ⟨hP, hV5, hX5, hR5, hO5⟩ := KF.out r2 cap4 w5 hown5 hgrow5 hat5; clear hown5 hgrow5 hat5; have HP5 := Lib.hid hP; have HV5 := Lib.hid hV5; have HX5 := Lib.hid hX5; have HR5 := Lib.hid hR5; have HO5 := Lib.hid hO5; have hlt5 := hV5.lt; obtain ⟨q0, q1, q2, q3, q4⟩ := hV5.cells; have qf := Vt.box_free hV5 4; clear hP hV5 hX5 hR5 hO5)
        go_roundw
        case rel =>
          refine ⟨okb, n + 1, n + 1, some ⟨r2, 0, none⟩, cap4, s2, rfl, by go_num, by omega, Vt.box_far HX5.out (by omega) _, Vt.box_set HV5.out, rs_set HR5.out (by omega) _, only_set HO5.out (by omega) _, fun hok => ⟨rfl, acc ++ [tt], HP5.out.setCell (by simp only []; omega) _, rep_acc HREPE.out hlt (HYES.out hok), ?_⟩, fun hok => rep_stop HREPE.out hlt (HNO.out hok)⟩
          have := pv_lt HSJ.out (HYES.out hok)
          omega
        case measure => cases okb <;> simp [intOf] <;> omega
      · have hj2 : n = nn := by omega
        subst hj2
        have hcond : decide ((n : Int) < (n : Int)) = false := decide_eq_false (by omega)
        have HE := Lib.hid (rep_end HREPE.out)
        have HACC : Hid (acc.length = n) := Lib.hid HVS.out.1
        obtain ⟨d0, d1, d2, d3, d4⟩ := HV.out.cells
        obtain ⟨r0, r1, r2, r3, r4⟩ := HX.out.cells
        have f0 := Vt.box_free HX.out 0
        have f1 := Vt.box_free HX.out 1
        have f2 := Vt.box_free HX.out 2
        have f3 := Vt.box_free HX.out 3
        have f4 := Vt.box_free HX.out 4
        have hne1 : ¬ (w.heap.size = b1) := by omega
        have hne2 : ¬ (b1 = w.heap.size) := by omega
        have hltx := HX.out.lt
        go_wp2_with fail
        refine (rs_ok HR.out).mono ?_
        rintro e w5 ⟨rfl, rfl⟩
        cases hb4 : sj.2 with
        | true =>
          have HN : pv (left + 1) s = none := by rw [HP.out, HE.out]; simp only [hb4]; rfl
          go_wp2_with fail
          refine bodyPost_ret (v := .tuple #[.agg #[.int .i64 0, .int .i64 0, .float .f64 0, .string ⟨#[]⟩, .slice none 0 0], .bool false]) (by simp [results, Tryz.results79, go_sem, r0, r1, r2, r3, r4]) rfl ?_
          exact vread_no HN (rs_put5 HR.out (by omega) _ _ _ _ _) (only_put5 HO.out (Nat.le_refl _) _ _ _ _ _)
        | false =>
          have HY : pv (left + 1) s = some (sj, .mk 4 0 0 ⟨#[]⟩ acc) := by rw [HP.out, HE.out]; simp only [hb4]; rfl
          go_wp2_with fail
          refine bodyPost_ret (v := .tuple #[.agg #[.int .i64 (k : Int), .int .i64 0, .float .f64 0, .string ⟨#[]⟩, .slice A n cap], .bool true]) (by simp [results, Tryz.results79, go_sem, r0, r1, r2, r3, r4]) rfl ?_
          have hvs := HVS.out
          have hacc := HACC.out
          exact vread_yes HY (by rw [HK0.out]; rw [← hacc] at hvs ⊢; exact vs_rep hvs (by omega) _ _ _ _ _) (rs_put5 HR.out (by omega) _ _ _ _ _) (only_put5 HO.out (Nat.le_refl _) _ _ _ _ _)

end Rd
end Go.Proofs.YtcbddebmmaflgaaGreatDoor
namespace Go.Proofs.YtcbddebmmaflgaaGreatDoor
open Go.RowKit
set_option linter.unusedVariables false
set_option linter.unusedSimpArgs false
namespace Rd
open _root_.Go.Proofs.YtcbddebmmaflgaaGreatDoor.Nm (ret_int ret_bool bitsW ofW okW)
open Vt (VT Rep BoxAt below_drew put5 KidsAt HeadOk kindV of_any kv0 kv1 kv2 kv3 kv4)
open Cm (OnlyAt rowOf)
open Cn (BRd brd_own VsAt VNew)
attribute [local go_sem] Vt.run_store_float

theorem vread_any (left : Nat) (hL : left ≤ 1000) : ∀ (g : Nat) (s : St) (w : World), RS w g s → Calls Tryz.prog 79 #[.pointer (some ⟨g, 0, none⟩), .int .i64 (left : Nat)] w (VRead left s w g) := by
  have key : ∀ (left g : Nat) (s : St) (w : World), RS w g s → ((rUint s).1.2 = false ∧ (rUint s).2 = 4 → Calls Tryz.prog 79 #[.pointer (some ⟨g, 0, none⟩), .int .i64 (left : Nat)] w (VRead left s w g)) → Calls Tryz.prog 79 #[.pointer (some ⟨g, 0, none⟩), .int .i64 (left : Nat)] w (VRead left s w g) := by
    intro left g s w h h4
    by_cases hq : (rUint s).1.2 = true ∨ 4 < (rUint s).2
    · exact rw_bad left g s w h hq
    · have hb : (rUint s).1.2 = false := bool_of fun hh => hq (.inl hh)
      have hk : (rUint s).2 ≤ 4 := by have := fun hh => hq (.inr hh); omega
      rcases (by omega : (rUint s).2 = 0 ∨ (rUint s).2 = 1 ∨ (rUint s).2 = 2 ∨ (rUint s).2 = 3 ∨ (rUint s).2 = 4) with k | k | k | k | k
      · exact rw_none left g s w h ⟨hb, k⟩
      · exact rw_int left g s w h ⟨hb, k⟩
      · exact rw_float left g s w h ⟨hb, k⟩
      · exact rw_text left g s w h ⟨hb, k⟩
      · exact h4 ⟨hb, k⟩
  induction left with
  | zero => exact fun g s w h => key 0 g s w h fun hq => rw_list0 g s w h hq
  | succ left ih => exact fun g s w h => key (left + 1) g s w h fun hq => rw_list left g s w h hq (by omega) (Lib.hid (ih (by omega)))
/-- What value.Read leaves. -/
def VOpen (s : St) (w : World) (g : Nat) (r : Ending) (w' : World) : Prop := ∃ (okb : Bool) (k n : Int) (f : Nat) (str : ByteArray) (A : Option Addr) (m c : Nat) (tt : VT) (s' : St),
    r = .returned (.tuple #[.agg #[.int .i64 k, .int .i64 n, .float .f64 f, .string str, .slice A m c], .bool okb]) ∧ Rep w' w.heap.size w'.heap.size tt (.agg #[.int .i64 k, .int .i64 n, .float .f64 f, .string str, .slice A m c]) ∧ RS w' g s' ∧ OnlyAt w w' g none ∧
    (okb = true → pv 8 s = some (s', tt)) ∧ (okb = false → pv 8 s = none)
set_option maxRecDepth 100000 in
theorem value_read (g : Nat) (s : St) (w : World) (h : RS w g s) : Calls Tryz.prog 40 #[.pointer (some ⟨g, 0, none⟩)] w (VOpen s w g) := by
  have hg := h.lt
  obtain ⟨W0, hW0⟩ : ∃ W0, W0 = w.alloc (.cells #[.int .i64 0, .int .i64 0, .float .f64 0, .string ⟨#[]⟩, .slice none 0 0] 30) := ⟨_, rfl⟩
  have hx0 : BoxAt W0 w.heap.size 0 0 0 ⟨#[]⟩ none 0 0 := by rw [hW0]; exact BoxAt.new ..
  have hr0 : RS W0 g s := by rw [hW0]; exact rs_alloc h _
  have ho0 : OnlyAt w W0 g none := by rw [hW0]; exact only_alloc (OnlyAt.of_below (Below.refl _ _)) _
  have hz0 : W0.heap.size = w.heap.size + 1 := by rw [hW0]; simp
  have HC : Hid (Calls Tryz.prog 79 #[.pointer (some ⟨g, 0, none⟩), .int .i64 8] W0 (VRead 8 s W0 g)) := Lib.hid (vread_any 8 (by decide) g s W0 hr0)
  have HX0 := Lib.hid hx0; have HO0 := Lib.hid ho0; have HZ0 := Lib.hid hz0
  clear h hr0 hx0 ho0 hz0
  replace hW0 := Lib.hid hW0
  go_enter Tryz.func40, Tryz.ntmps40
  go_upto_region 1 with fail
  rw [← hW0.out]
  go_wp2_with fail
  refine HC.out.mono ?_
  intro e w1 hv
  obtain ⟨okb, k', n', f', s', A', m', c', tt, s2, rfl, hrep, hr, ho, hyes, hno⟩ := vread_open hv
  have hx1 := box_only HX0.out ho (by omega)
  have hlt1 := hx1.lt
  obtain ⟨r0, r1, r2, r3, r4⟩ := hx1.cells
  have f0 := Vt.box_free hx1 0
  have f1 := Vt.box_free hx1 1
  have f2 := Vt.box_free hx1 2
  have f3 := Vt.box_free hx1 3
  have f4 := Vt.box_free hx1 4
  have HREP := Lib.hid hrep; have HR := Lib.hid hr; have HO := Lib.hid ho; have HY := Lib.hid hyes; have HN := Lib.hid hno
  clear hv hrep hr ho hyes hno hx1
  go_wp2_with fail
  refine bodyPost_ret (v := .tuple #[.agg #[.int .i64 k', .int .i64 n', .float .f64 f', .string s', .slice A' m' c'], .bool okb]) (by simp [results, Tryz.results40, go_sem, r0, r1, r2, r3, r4]) rfl ?_
  refine ⟨okb, k', n', f', s', A', m', c', tt, s2, rfl, ?_, rs_put5 HR.out (by omega) _ _ _ _ _, only_put5 (HO0.out.trans HO.out) (Nat.le_refl _) _ _ _ _ _, HY.out, HN.out⟩
  show Rep (put5 w1 w.heap.size 0 (.int .i64 k') (.int .i64 n') (.float .f64 f') (.string s') (.slice A' m' c')) w.heap.size (put5 w1 w.heap.size 0 (.int .i64 k') (.int .i64 n') (.float .f64 f') (.string s') (.slice A' m' c')).heap.size tt _
  rw [Vt.put5_size]
  have hz := HZ0.out
  exact (HREP.out.keep fun b o hb _ => Vt.put5_cell _ _ _ _ _ _ _ _ b o (by omega)).more (by omega) (Nat.le_refl _)
end Rd
end Go.Proofs.YtcbddebmmaflgaaGreatDoor
namespace Go.Proofs.YtcbddebmmaflgaaGreatDoor
open Go.RowKit
set_option linter.unusedVariables false
set_option linter.unusedSimpArgs false
namespace Rd
open _root_.Go.Proofs.YtcbddebmmaflgaaGreatDoor.Nm (ret_int ret_bool)
open Vt (VT Rep BoxAt below_drew put5)
open Ev (EV EBox fieldsOf FieldsOk zeroT)
open Cm (OnlyAt)
attribute [local go_sem] Vt.run_store_float

/-- Only some blocks, and what is new, have turned. -/
structure Kp (w w' : World) (P : Nat → Prop) : Prop where
  os : w'.os = w.os
  tape : w'.tape = w.tape
  output : w'.output = w.output
  size : w.heap.size ≤ w'.heap.size
  block : ∀ b, b < w.heap.size → ¬ P b → w'.heap[b]? = w.heap[b]?
theorem Kp.trans {w w' w'' : World} {P : Nat → Prop} (h : Kp w w' P) (k : Kp w' w'' P) : Kp w w'' P :=
  ⟨k.os.trans h.os, k.tape.trans h.tape, k.output.trans h.output, Nat.le_trans h.size k.size, fun b hb h1 => (k.block b (Nat.lt_of_lt_of_le hb h.size) h1).trans (h.block b hb h1)⟩
theorem Kp.of_only {w w' : World} {g : Nat} {P : Nat → Prop} (h : OnlyAt w w' g none) (hg : P g) : Kp w w' P := ⟨h.os, h.tape, h.output, h.size, fun b hb h1 => h.block b hb (fun e => h1 (e ▸ hg)) (by simp)⟩
theorem Kp.set {w w' : World} {b o : Nat} {P : Nat → Prop} (h : Kp w w' P) (hb : P b) (v : Value) : Kp w (w'.setCell ⟨b, o, none⟩ v) P :=
  ⟨h.os, h.tape, h.output, by simpa [World.setCell] using h.size, fun x hx h1 => (Below.heap_setCell w' ⟨b, o, none⟩ v x (by simp only []; exact fun e => h1 (e ▸ hb))).trans (h.block x hx h1)⟩
theorem Kp.only {w w1 w' : World} {g : Nat} {P : Nat → Prop} (h1 : OnlyAt w w1 g none) (h : Kp w1 w' P) (hP : ∀ b, b < w.heap.size → b ≠ g → ¬ P b) : OnlyAt w w' g none :=
  ⟨h.os.trans h1.os, h.tape.trans h1.tape, h.output.trans h1.output, Nat.le_trans h1.size h.size, fun b hb h2 h3 => (h.block b (Nat.lt_of_lt_of_le hb h1.size) (hP b hb h2)).trans (h1.block b hb h2 h3)⟩
/-- The box of a pointer to the reader. -/
def PBox (w : World) (c g : Nat) : Prop := w.heap[c]? = some (.cells #[.pointer (some ⟨g, 0, none⟩)] 24 (0, 0))
theorem PBox.cell {w : World} {c g : Nat} (h : PBox w c g) : w.cell? ⟨c, 0, none⟩ = some (.pointer (some ⟨g, 0, none⟩)) := by unfold PBox at h; simp [World.cell?, h]
theorem PBox.lt {w : World} {c g : Nat} (h : PBox w c g) : c < w.heap.size := (Array.getElem?_eq_some_iff.1 h).1
def RBox (w : World) (c : Nat) (b : Bool) : Prop := w.heap[c]? = some (.cells #[.bool b] 4 (0, 0))
theorem RBox.cell {w : World} {c : Nat} {b : Bool} (h : RBox w c b) : w.cell? ⟨c, 0, none⟩ = some (.bool b) ∧ w.frozen? ⟨c, 0, none⟩ = false ∧ c < w.heap.size := by
  have h' := h
  unfold RBox at h; exact ⟨by simp [World.cell?, h], by simp [World.frozen?, h], (Array.getElem?_eq_some_iff.1 h').1⟩
theorem ebox_free {w : World} {g : Nat} {cs : Array Value} (r : EBox w g cs) (o : Nat) : w.frozen? ⟨g, o, none⟩ = false := by unfold EBox at r; simp [World.frozen?, r]
theorem ebox_only {w w' : World} {g ge : Nat} {cs : Array Value} (h : EBox w ge cs) (ho : OnlyAt w w' g none) (hg : ge ≠ g) : EBox w' ge cs := (ho.block ge h.lt hg (by simp)).trans h
theorem ebox_far {w : World} {g b o : Nat} {cs : Array Value} (h : EBox w g cs) (hb : g ≠ b) (v : Value) : EBox (w.setCell ⟨b, o, none⟩ v) g cs := (Below.heap_setCell w ⟨b, o, none⟩ v g (by simpa using hb)).trans h

set_option maxRecDepth 100000 in
set_option maxHeartbeats 1000000 in
theorem clo_id (g c ge : Nat) (s : St) (a0 a1 a2 a3 a4 a5 a6 a7 a8 a9 a10 : Value) (w : World) (h : RS w g s) (hp : PBox w c g) (he : EBox w ge #[a0, a1, a2, a3, a4, a5, a6, a7, a8, a9, a10]) (hcg : c ≠ g) (hge : g < ge) :
    Calls Tryz.prog 33 #[.pointer (some ⟨c, 0, none⟩), .pointer (some ⟨ge, 0, none⟩)] w fun r w' => r = .returned (.tuple #[]) ∧ RS w' g (rUint s).1 ∧ EBox w' ge #[a0, .int .u64 (rUint s).2, a2, a3, a4, a5, a6, a7, a8, a9, a10] ∧ Kp w w' (fun b => b = g ∨ b = ge) := by
  have HC := Lib.hid (uint_any g s w h)
  have hpc := hp.cell
  have HE := Lib.hid he
  clear h hp he
  go_enter Tryz.func33, Tryz.ntmps33
  go_wp2_with fail
  refine HC.out.mono ?_
  rintro e w1 ⟨rfl, hr, ho⟩
  have hE := ebox_only HE.out ho (by omega)
  obtain ⟨c0, c1, c2, c3, c4, c5, c6, c7, c8, c9, c10⟩ := hE.cells
  have hlt := hE.lt
  have fr := ebox_free hE 1
  have HE1 := Lib.hid hE; have HR := Lib.hid hr; have HO := Lib.hid ho
  clear hE hr ho
  go_wp2_with fail
  have hE := HE1.out
  exact bodyPost_end (results_none rfl _ _ _) rfl ⟨rfl, rs_set HR.out hge _, by unfold EBox at hE ⊢; simp [World.setCell, Array.getElem?_modify, hE], (Kp.of_only HO.out (.inl rfl)).set (.inr rfl) _⟩

set_option maxRecDepth 100000 in
set_option maxHeartbeats 1000000 in
theorem clo_n (g c ge : Nat) (s : St) (a0 a1 a2 a3 a4 a5 a6 a7 a8 a9 a10 : Value) (w : World) (h : RS w g s) (hp : PBox w c g) (he : EBox w ge #[a0, a1, a2, a3, a4, a5, a6, a7, a8, a9, a10]) (hcg : c ≠ g) (hge : g < ge) :
    Calls Tryz.prog 34 #[.pointer (some ⟨c, 0, none⟩), .pointer (some ⟨ge, 0, none⟩)] w fun r w' => r = .returned (.tuple #[]) ∧ RS w' g (rUint s).1 ∧ EBox w' ge #[a0, a1, .int .i64 ((min (rUint s).2 2147483648 : Nat) : Int), a3, a4, a5, a6, a7, a8, a9, a10] ∧ Kp w w' (fun b => b = g ∨ b = ge) := by
  have HC := Lib.hid (uint_any g s w h)
  obtain ⟨x, hx⟩ : ∃ x, x = (rUint s).2 := ⟨_, rfl⟩
  obtain ⟨y, hy⟩ : ∃ y : Nat, y = min x 2147483648 := ⟨_, rfl⟩
  have hmin : (if (2147483648 : Int) < (x : Int) then (2147483648 : Int) else (x : Int)) = (y : Int) := by split <;> omega
  have hmin2 : (if (x : Int) < (2147483648 : Int) then (x : Int) else (2147483648 : Int)) = (y : Int) := by split <;> omega
  have hwy : IntKind.i64.wrap (y : Int) = (y : Int) := by rw [IntKind.wrap_i64]; omega
  rw [← hx] at HC ⊢
  rw [← hy]
  have HY := Lib.hid hy; have HXX := Lib.hid hx
  clear hy hx
  have hpc := hp.cell
  have HE := Lib.hid he
  clear h hp he
  go_enter Tryz.func34, Tryz.ntmps34
  go_wp2_with fail
  refine HC.out.mono ?_
  rintro e w1 ⟨rfl, hr, ho⟩
  have hE := ebox_only HE.out ho (by omega)
  obtain ⟨c0, c1, c2, c3, c4, c5, c6, c7, c8, c9, c10⟩ := hE.cells
  have hlt := hE.lt
  have fr := ebox_free hE 2
  have HE1 := Lib.hid hE; have HR := Lib.hid hr; have HO := Lib.hid ho
  clear hE hr ho
  go_wp2_with fail
  have hE := HE1.out
  exact bodyPost_end (results_none rfl _ _ _) rfl ⟨rfl, rs_set HR.out hge _, by unfold EBox at hE ⊢; simp [World.setCell, Array.getElem?_modify, hE], (Kp.of_only HO.out (.inl rfl)).set (.inr rfl) _⟩

set_option maxRecDepth 100000 in
set_option maxHeartbeats 1000000 in
theorem clo_at (g c ge : Nat) (s : St) (a0 a1 a2 a3 a4 a5 a6 a7 a8 a9 a10 : Value) (w : World) (h : RS w g s) (hp : PBox w c g) (he : EBox w ge #[a0, a1, a2, a3, a4, a5, a6, a7, a8, a9, a10]) (hcg : c ≠ g) (hge : g < ge) :
    Calls Tryz.prog 35 #[.pointer (some ⟨c, 0, none⟩), .pointer (some ⟨ge, 0, none⟩)] w fun r w' => r = .returned (.tuple #[]) ∧ RS w' g (rUint s).1 ∧ EBox w' ge #[a0, a1, a2, .int .u64 (rUint s).2, a4, a5, a6, a7, a8, a9, a10] ∧ Kp w w' (fun b => b = g ∨ b = ge) := by
  have HC := Lib.hid (uint_any g s w h)
  have hpc := hp.cell
  have HE := Lib.hid he
  clear h hp he
  go_enter Tryz.func35, Tryz.ntmps35
  go_wp2_with fail
  refine HC.out.mono ?_
  rintro e w1 ⟨rfl, hr, ho⟩
  have hE := ebox_only HE.out ho (by omega)
  obtain ⟨c0, c1, c2, c3, c4, c5, c6, c7, c8, c9, c10⟩ := hE.cells
  have hlt := hE.lt
  have fr := ebox_free hE 3
  have HE1 := Lib.hid hE; have HR := Lib.hid hr; have HO := Lib.hid ho
  clear hE hr ho
  go_wp2_with fail
  have hE := HE1.out
  exact bodyPost_end (results_none rfl _ _ _) rfl ⟨rfl, rs_set HR.out hge _, by unfold EBox at hE ⊢; simp [World.setCell, Array.getElem?_modify, hE], (Kp.of_only HO.out (.inl rfl)).set (.inr rfl) _⟩

set_option maxRecDepth 100000 in
set_option maxHeartbeats 1000000 in
theorem clo_name (g c ge : Nat) (s : St) (a0 a1 a2 a3 a4 a5 a6 a7 a8 a9 a10 : Value) (w : World) (h : RS w g s) (hp : PBox w c g) (he : EBox w ge #[a0, a1, a2, a3, a4, a5, a6, a7, a8, a9, a10]) (hcg : c ≠ g) (hge : g < ge) :
    Calls Tryz.prog 36 #[.pointer (some ⟨c, 0, none⟩), .pointer (some ⟨ge, 0, none⟩)] w fun r w' => r = .returned (.tuple #[]) ∧ RS w' g (rBytes s).1 ∧ EBox w' ge #[a0, a1, a2, a3, .string (strOf (rBytes s).2), a5, a6, a7, a8, a9, a10] ∧ Kp w w' (fun b => b = g ∨ b = ge) := by
  have HC := Lib.hid (text_any g s w h)
  have hpc := hp.cell
  have HE := Lib.hid he
  clear h hp he
  go_enter Tryz.func36, Tryz.ntmps36
  go_wp2_with fail
  refine HC.out.mono ?_
  rintro e w1 ⟨rfl, hr, ho⟩
  have hE := ebox_only HE.out ho (by omega)
  obtain ⟨c0, c1, c2, c3, c4, c5, c6, c7, c8, c9, c10⟩ := hE.cells
  have hlt := hE.lt
  have fr := ebox_free hE 4
  have HE1 := Lib.hid hE; have HR := Lib.hid hr; have HO := Lib.hid ho
  clear hE hr ho
  go_wp2_with fail
  have hE := HE1.out
  exact bodyPost_end (results_none rfl _ _ _) rfl ⟨rfl, rs_set HR.out hge _, by unfold EBox at hE ⊢; simp [World.setCell, Array.getElem?_modify, hE], (Kp.of_only HO.out (.inl rfl)).set (.inr rfl) _⟩

set_option maxRecDepth 100000 in
set_option maxHeartbeats 1000000 in
theorem clo_text (g c ge : Nat) (s : St) (a0 a1 a2 a3 a4 a5 a6 a7 a8 a9 a10 : Value) (w : World) (h : RS w g s) (hp : PBox w c g) (he : EBox w ge #[a0, a1, a2, a3, a4, a5, a6, a7, a8, a9, a10]) (hcg : c ≠ g) (hge : g < ge) :
    Calls Tryz.prog 38 #[.pointer (some ⟨c, 0, none⟩), .pointer (some ⟨ge, 0, none⟩)] w fun r w' => r = .returned (.tuple #[]) ∧ RS w' g (rBytes s).1 ∧ EBox w' ge #[a0, a1, a2, a3, a4, .string (strOf (rBytes s).2), a6, a7, a8, a9, a10] ∧ Kp w w' (fun b => b = g ∨ b = ge) := by
  have HC := Lib.hid (text_any g s w h)
  have hpc := hp.cell
  have HE := Lib.hid he
  clear h hp he
  go_enter Tryz.func38, Tryz.ntmps38
  go_wp2_with fail
  refine HC.out.mono ?_
  rintro e w1 ⟨rfl, hr, ho⟩
  have hE := ebox_only HE.out ho (by omega)
  obtain ⟨c0, c1, c2, c3, c4, c5, c6, c7, c8, c9, c10⟩ := hE.cells
  have hlt := hE.lt
  have fr := ebox_free hE 5
  have HE1 := Lib.hid hE; have HR := Lib.hid hr; have HO := Lib.hid ho
  clear hE hr ho
  go_wp2_with fail
  have hE := HE1.out
  exact bodyPost_end (results_none rfl _ _ _) rfl ⟨rfl, rs_set HR.out hge _, by unfold EBox at hE ⊢; simp [World.setCell, Array.getElem?_modify, hE], (Kp.of_only HO.out (.inl rfl)).set (.inr rfl) _⟩

set_option maxRecDepth 100000 in
set_option maxHeartbeats 1000000 in
theorem clo_val (g c ge gb : Nat) (s : St) (b0 : Bool) (a0 a1 a2 a3 a4 a5 a6 a7 a8 a9 a10 : Value) (w : World) (h : RS w g s) (hp : PBox w c g) (he : EBox w ge #[a0, a1, a2, a3, a4, a5, a6, a7, a8, a9, a10]) (hb : RBox w gb b0) (hcg : c ≠ g) (hge : g < ge) (hgb : g < gb) (hne : ge ≠ gb) :
    Calls Tryz.prog 39 #[.pointer (some ⟨c, 0, none⟩), .pointer (some ⟨ge, 0, none⟩), .pointer (some ⟨gb, 0, none⟩)] w fun r w' => r = .returned (.tuple #[]) ∧ ∃ (okb : Bool) (k n : Int) (f : Nat) (str : ByteArray) (A : Option Addr) (m cc : Nat) (tt : VT) (s' : St),
      RS w' g s' ∧ EBox w' ge #[a0, a1, a2, a3, a4, a5, .int .i64 k, .int .i64 n, .float .f64 f, .string str, .slice A m cc] ∧ RBox w' gb okb ∧ Rep w' w.heap.size w'.heap.size tt (.agg #[.int .i64 k, .int .i64 n, .float .f64 f, .string str, .slice A m cc]) ∧ (okb = true → pv 8 s = some (s', tt)) ∧ (okb = false → pv 8 s = none) ∧ Kp w w' (fun b => b = g ∨ b = ge ∨ b = gb) := by
  have HC := Lib.hid (value_read g s w h)
  have hpc := hp.cell
  have HE := Lib.hid he; have HB := Lib.hid hb
  have helt := he.lt; have hblt := hb.cell.2.2
  clear h hp he hb
  go_enter Tryz.func39, Tryz.ntmps39
  go_wp2_with fail
  refine HC.out.mono ?_
  intro e w1 hv
  obtain ⟨okb, k, n, f, str, A, m, cc, tt, s', rfl, hrep, hr, ho, hyes, hno⟩ := hv
  have hE := ebox_only HE.out ho (by omega)
  have hB : RBox w1 gb b0 := (ho.block gb hblt (by omega) (by simp)).trans HB.out
  obtain ⟨c0, c1, c2, c3, c4, c5, c6, c7, c8, c9, c10⟩ := hE.cells
  obtain ⟨q0, qf, qlt⟩ := hB.cell
  have hlt := hE.lt
  have fr6 := ebox_free hE 6; have fr7 := ebox_free hE 7; have fr8 := ebox_free hE 8; have fr9 := ebox_free hE 9; have fr10 := ebox_free hE 10
  have HE1 := Lib.hid hE; have HR := Lib.hid hr; have HO := Lib.hid ho; have HREP := Lib.hid hrep; have HY := Lib.hid hyes; have HN := Lib.hid hno; have HB1 := Lib.hid hB
  clear hE hr ho hrep hyes hno hB
  go_wp2_with fail
  have hE := HE1.out
  have hB := HB1.out
  refine bodyPost_end (results_none rfl _ _ _) rfl ⟨rfl, okb, k, n, f, str, A, m, cc, tt, s', rs_set (rs_set (rs_set (rs_set (rs_set (rs_set HR.out hge _) hge _) hge _) hge _) hge _) hgb _, ebox_far (by unfold EBox at hE ⊢; simp [World.setCell, Array.getElem?_modify, hE]) hne _, ?_, ?_, HY.out, HN.out, ((((((Kp.of_only HO.out (.inl rfl)).set (.inr (.inl rfl)) _).set (.inr (.inl rfl)) _).set (.inr (.inl rfl)) _).set (.inr (.inl rfl)) _).set (.inr (.inl rfl)) _).set (.inr (.inr rfl)) _⟩
  · unfold RBox at hB ⊢
    simp [World.setCell, Array.getElem?_modify, hB, hne]
  · have : ∀ b o, w.heap.size ≤ b → b < w1.heap.size → (((((((w1.setCell ⟨ge, 6, none⟩ (.int .i64 k)).setCell ⟨ge, 7, none⟩ (.int .i64 n)).setCell ⟨ge, 8, none⟩ (.float .f64 f)).setCell ⟨ge, 9, none⟩ (.string str)).setCell ⟨ge, 10, none⟩ (.slice A m cc)).setCell ⟨gb, 0, none⟩ (.bool okb)).cell? ⟨b, o, none⟩) = w1.cell? ⟨b, o, none⟩ := fun b o h1 h2 => by
      have e (w : World) (x q : Nat) (v : Value) (hx : b ≠ x) : (w.setCell ⟨x, q, none⟩ v).cell? ⟨b, o, none⟩ = w.cell? ⟨b, o, none⟩ := World.cell?_setCell_other w ⟨x, q, none⟩ ⟨b, o, none⟩ v (fun y => by injection y with y; exact hx y.symm)
      rw [e _ _ _ _ (by omega), e _ _ _ _ (by omega), e _ _ _ _ (by omega), e _ _ _ _ (by omega), e _ _ _ _ (by omega), e _ _ _ _ (by omega)]
    simpa [World.setCell] using HREP.out.keep this
end Rd
end Go.Proofs.YtcbddebmmaflgaaGreatDoor
namespace Go.Proofs.YtcbddebmmaflgaaGreatDoor
open Go.RowKit
set_option linter.unusedVariables false
set_option linter.unusedSimpArgs false
namespace Rd
open _root_.Go.Proofs.YtcbddebmmaflgaaGreatDoor.Nm (ret_int ret_bool)
open Vt (VT Rep BoxAt below_drew put5)
open Ev (EV EBox ERep fieldsOf FieldsOk zeroT evCells vCells)
open Cm (OnlyAt)
open Cn (BRd)
attribute [local go_sem] Vt.run_store_float

theorem brd_ne {w : World} {g : Nat} {s : St} {x : Value} {l : List Nat} (hr : RS w g s) (h : BRd w x l) (hp : 0 < l.length) : ∀ k, x.ownBlock = some k → k ≠ g := by
  intro k hk
  rcases h with ⟨-, h2⟩ | ⟨b, off, cap, rfl, -, -, -, h5⟩
  · rw [h2] at hp; simp at hp
  · rw [Bt.ownBlock_slice] at hk
    cases hk
    rintro rfl
    obtain ⟨⟨v, hra⟩, -⟩ := hr
    have h0 := h5 0 hp
    have hb := hra.blk
    obtain ⟨A, c, hv⟩ := hra.rd.form
    rw [Nat.add_zero] at h0
    simp only [World.cell?, hb] at h0
    match off with
    | 0 => simp [hv] at h0
    | 1 => simp at h0
    | n + 2 => simp at h0
theorem brd_later {w w' : World} {g : Nat} {s : St} {x : Value} {l : List Nat} (hr : RS w g s) (h : BRd w x l) (hp : 0 < l.length) (ho : OnlyAt w w' g none) : BRd w' x l :=
  brd_keep h ho.size fun k hk => ho.block k (brd_block h k hk) (brd_ne hr h hp k hk) (by simp)
/-- The zero event. -/
def zeroE : Value := .agg #[.int .i64 0, .int .u64 0, .int .i64 0, .int .u64 0, .string ⟨#[]⟩, .string ⟨#[]⟩, .int .i64 0, .int .i64 0, .float .f64 0, .string ⟨#[]⟩, .slice none 0 0]
def ERead (s : St) (w : World) (g : Nat) (r : Ending) (w' : World) : Prop := match pe s with
  | some (s', e) => ∃ x, r = .returned (.tuple #[x, .bool true]) ∧ ERep w' w.heap.size w'.heap.size e x ∧ RS w' g s' ∧ OnlyAt w w' g none
  | none => r = .returned (.tuple #[zeroE, .bool false]) ∧ (∃ s', RS w' g s') ∧ OnlyAt w w' g none
def set11 (W : World) (b : Nat) (d0 d1 d2 d3 d4 d5 d6 d7 d8 d9 d10 : Value) : World :=
  put5 ((((((W.setCell ⟨b, 0, none⟩ d0).setCell ⟨b, 1, none⟩ d1).setCell ⟨b, 2, none⟩ d2).setCell ⟨b, 3, none⟩ d3).setCell ⟨b, 4, none⟩ d4).setCell ⟨b, 5, none⟩ d5) b 6 d6 d7 d8 d9 d10
theorem only_set11 {w W : World} {g b : Nat} (h : OnlyAt w W g none) (hb : w.heap.size ≤ b) (d0 d1 d2 d3 d4 d5 d6 d7 d8 d9 d10 : Value) : OnlyAt w (set11 W b d0 d1 d2 d3 d4 d5 d6 d7 d8 d9 d10) g none :=
  only_put5 (only_set (only_set (only_set (only_set (only_set (only_set h hb _) hb _) hb _) hb _) hb _) hb _) hb _ _ _ _ _
theorem rs_set11 {W : World} {g b : Nat} {s : St} (h : RS W g s) (hb : g < b) (d0 d1 d2 d3 d4 d5 d6 d7 d8 d9 d10 : Value) : RS (set11 W b d0 d1 d2 d3 d4 d5 d6 d7 d8 d9 d10) g s :=
  rs_put5 (rs_set (rs_set (rs_set (rs_set (rs_set (rs_set h hb _) hb _) hb _) hb _) hb _) hb _) hb _ _ _ _ _
theorem set11_size (W : World) (b : Nat) (d0 d1 d2 d3 d4 d5 d6 d7 d8 d9 d10 : Value) : (set11 W b d0 d1 d2 d3 d4 d5 d6 d7 d8 d9 d10).heap.size = W.heap.size := by unfold set11; rw [Vt.put5_size]; simp [World.setCell]
theorem set11_other (W : World) (b q : Nat) (d0 d1 d2 d3 d4 d5 d6 d7 d8 d9 d10 : Value) (h : q ≠ b) : (set11 W b d0 d1 d2 d3 d4 d5 d6 d7 d8 d9 d10).heap[q]? = W.heap[q]? := by
  have e (w : World) (x : Nat) (v : Value) : (w.setCell ⟨b, x, none⟩ v).heap[q]? = w.heap[q]? := Below.heap_setCell w ⟨b, x, none⟩ v q (by simpa using h)
  unfold set11
  rw [Vt.put5_other _ _ _ _ _ _ _ _ q h, e, e, e, e, e, e]
theorem eread_no {s s' : St} {w w' : World} {g : Nat} (h : pe s = none) (hr : RS w' g s') (ho : OnlyAt w w' g none) : ERead s w g (.returned (.tuple #[.agg #[.int .i64 0, .int .u64 0, .int .i64 0, .int .u64 0, .string ⟨#[]⟩, .string ⟨#[]⟩, .int .i64 0, .int .i64 0, .float .f64 0, .string ⟨#[]⟩, .slice none 0 0], .bool false])) w' := by
  unfold ERead; rw [h]; exact ⟨rfl, ⟨s', hr⟩, ho⟩
theorem ebox_frees {w : World} {g : Nat} {cs : Array Value} (r : EBox w g cs) : w.frozen? ⟨g, 0, none⟩ = false ∧ w.frozen? ⟨g, 1, none⟩ = false ∧ w.frozen? ⟨g, 2, none⟩ = false ∧ w.frozen? ⟨g, 3, none⟩ = false ∧ w.frozen? ⟨g, 4, none⟩ = false ∧ w.frozen? ⟨g, 5, none⟩ = false ∧ w.frozen? ⟨g, 6, none⟩ = false ∧ w.frozen? ⟨g, 7, none⟩ = false ∧ w.frozen? ⟨g, 8, none⟩ = false ∧ w.frozen? ⟨g, 9, none⟩ = false ∧ w.frozen? ⟨g, 10, none⟩ = false := by
  refine ⟨?_, ?_, ?_, ?_, ?_, ?_, ?_, ?_, ?_, ?_, ?_⟩ <;> exact ebox_free r _
set_option maxRecDepth 100000 in
set_option maxHeartbeats 1000000 in
theorem er_bad (g : Nat) (s : St) (w : World) (h : RS w g s) (hq : (rTake s 1).2 ≠ [1] ∨ (rUint (rTake s 1).1).1.2 = true ∨ 11 < (rUint (rTake s 1).1).2) :
    Calls Tryz.prog 8 #[.pointer (some ⟨g, 0, none⟩)] w (ERead s w g) := by
  have HN : Hid (pe s = none) := Lib.hid (by unfold pe; simp only; rw [if_pos hq])
  have hg := h.lt
  have hb := h.2.1
  have hl := h.2.2
  obtain ⟨W0, hW0⟩ : ∃ W0, W0 = (w.alloc (.cells #[.pointer (some ⟨g, 0, none⟩)] 24)).alloc (.cells #[.int .i64 0, .int .u64 0, .int .i64 0, .int .u64 0, .string ⟨#[]⟩, .string ⟨#[]⟩, .int .i64 0, .int .i64 0, .float .f64 0, .string ⟨#[]⟩, .slice none 0 0] 32) := ⟨_, rfl⟩
  have hp0 : PBox W0 w.heap.size g := by rw [hW0]; exact (heap_alloc_old _ _ (by simp)).trans (heap_alloc_new w _)
  have hx0 : EBox W0 (w.heap.size + 1) #[.int .i64 0, .int .u64 0, .int .i64 0, .int .u64 0, .string ⟨#[]⟩, .string ⟨#[]⟩, .int .i64 0, .int .i64 0, .float .f64 0, .string ⟨#[]⟩, .slice none 0 0] := by
    rw [hW0]
    have e := heap_alloc_new (w.alloc (.cells #[.pointer (some ⟨g, 0, none⟩)] 24)) (.cells #[.int .i64 0, .int .u64 0, .int .i64 0, .int .u64 0, .string ⟨#[]⟩, .string ⟨#[]⟩, .int .i64 0, .int .i64 0, .float .f64 0, .string ⟨#[]⟩, .slice none 0 0] 32)
    rw [World.size_alloc] at e
    exact e
  have hr0 : RS W0 g s := by rw [hW0]; exact rs_alloc (rs_alloc h _) _
  have ho0 : OnlyAt w W0 g none := by rw [hW0]; exact only_alloc (only_alloc (OnlyAt.of_below (Below.refl _ _)) _) _
  have hz0 : W0.heap.size = w.heap.size + 2 := by rw [hW0]; simp
  obtain ⟨c0, hc0⟩ : ∃ c0, c0 = w.heap.size := ⟨_, rfl⟩
  rw [← hc0] at hp0 hx0 hz0 hg
  have HT : Hid (Calls Tryz.prog 30 #[.pointer (some ⟨g, 0, none⟩), .int .i64 1] W0 fun r w' => ∃ x, r = .returned x ∧ BRd w' x (rTake s 1).2 ∧ RS w' g (rTake s 1).1 ∧ OnlyAt W0 w' g none) := Lib.hid (take_any g s 1 W0 hr0)
  have hl1 := rTake_len s 1
  have HP0 := Lib.hid hp0
  have HX0 := Lib.hid hx0
  have HO0 := Lib.hid ho0
  have HBY := Lib.hid (rTake_byt hb hl 1)
  have hpc := hp0.cell
  clear h hr0 hx0 ho0 hp0 hb hl
  have HQQ := Lib.hid hq
  clear hq
  have HU := Lib.hid fun W (hW : RS W g (rTake s 1).1) => uint_any g (rTake s 1).1 W hW
  generalize rTake s 1 = a at *
  obtain ⟨sa, l⟩ := a
  simp only at *
  generalize rUint sa = q at *
  obtain ⟨s1, k⟩ := q
  simp only at *
  replace hW0 := Lib.hid hW0
  have HC0 := Lib.hid hc0
  clear hc0
  go_enter Tryz.func8, Tryz.ntmps8
  go_upto_region 1 with fail
  rw [← hW0.out, ← HC0.out]
  go_wp2_with fail
  refine HT.out.mono ?_
  rintro e w1 ⟨x, rfl, hx1, hr1, ho1⟩
  have hp1 : PBox w1 c0 g := (ho1.block c0 HP0.out.lt (by omega) (by simp)).trans HP0.out
  have hX1 := ebox_only HX0.out ho1 (by omega)
  clear hpc
  have hpc := hp1.cell
  have HP1 := Lib.hid hp1
  have HX1 := Lib.hid hX1
  have HR1 := Lib.hid hr1
  have HO1 := Lib.hid (HO0.out.trans ho1)
  have HBR := Lib.hid hx1
  clear hp1 hX1 hr1 ho1 hx1
  go_wp2_with fail
  refine (HU.out _ HR1.out).mono ?_
  rintro e w2 ⟨rfl, hr2, ho2⟩
  have hp2 : PBox w2 c0 g := (ho2.block c0 HP1.out.lt (by omega) (by simp)).trans HP1.out
  have hX2 := ebox_only HX1.out ho2 (by omega)
  clear hpc
  have hpc := hp2.cell
  have HBR2 : Hid (0 < l.length → BRd w2 x l) := Lib.hid fun hp => brd_later HR1.out HBR.out hp ho2
  obtain ⟨A, cap, hxf⟩ := HBR.out.form
  subst hxf
  have HP2 := Lib.hid hp2
  have HX2 := Lib.hid hX2
  have HR2 := Lib.hid hr2
  have HO2 := Lib.hid (HO1.out.trans ho2)
  clear hp2 hX2 hr2 ho2
  obtain ⟨r0, r1, r2, r3, r4, r5, r6, r7, r8, r9, r10⟩ := HX2.out.cells
  obtain ⟨f0, f1, f2, f3, f4, f5, f6, f7, f8, f9, f10⟩ := ebox_frees HX2.out
  have hltx := HX2.out.lt
  match l, hl1 with
  | [], _ =>
    go_wp2_with fail
    refine bodyPost_ret (v := .tuple #[.agg #[.int .i64 0, .int .u64 0, .int .i64 0, .int .u64 0, .string ⟨#[]⟩, .string ⟨#[]⟩, .int .i64 0, .int .i64 0, .float .f64 0, .string ⟨#[]⟩, .slice none 0 0], .bool false]) (by simp [results, Tryz.results8, go_sem, r0, r1, r2, r3, r4, r5, r6, r7, r8, r9, r10]) rfl ?_
    exact eread_no HN.out (rs_set11 HR2.out (by omega) _ _ _ _ _ _ _ _ _ _ _) (only_set11 HO2.out (by rw [← HC0.out]; omega) _ _ _ _ _ _ _ _ _ _ _)
  | [c], _ =>
    rcases HBR2.out (by simp) with ⟨h1, -⟩ | ⟨b, off, cap2, h1, h2, h3, h4, h5⟩
    · cases h1
    · injection h1 with h1 _ h1c
      subst h1 h1c
      have c1 := h5 0 (by simp)
      simp only [Nat.add_zero, List.getElem_cons_zero] at c1
      clear h5 h2 h3
      by_cases hc : c = 1
      · subst hc
        have hok := rs_ok HR2.out
        have HOK := Lib.hid hok
        clear hok
        cases hbad : s1.2 with
        | true =>
          rw [hbad] at HOK
          go_wp2_with fail
          refine HOK.out.mono ?_
          rintro e w3 ⟨rfl, rfl⟩
          go_wp2_with fail
          refine bodyPost_ret (v := .tuple #[.agg #[.int .i64 0, .int .u64 0, .int .i64 0, .int .u64 0, .string ⟨#[]⟩, .string ⟨#[]⟩, .int .i64 0, .int .i64 0, .float .f64 0, .string ⟨#[]⟩, .slice none 0 0], .bool false]) (by simp [results, Tryz.results8, go_sem, r0, r1, r2, r3, r4, r5, r6, r7, r8, r9, r10]) rfl ?_
          exact eread_no HN.out (rs_set11 HR2.out (by omega) _ _ _ _ _ _ _ _ _ _ _) (only_set11 HO2.out (by rw [← HC0.out]; omega) _ _ _ _ _ _ _ _ _ _ _)
        | false =>
          rw [hbad] at HOK
          have hk4 : 11 < k := by
            rcases HQQ.out with h | h | h
            · exact absurd rfl h
            · rw [hbad] at h; cases h
            · exact h
          have k1 : decide ((k : Int) > 11) = true := decide_eq_true (by omega)
          have k2 : decide ((11 : Int) < (k : Int)) = true := decide_eq_true (by omega)
          have k3 : decide (11 < k) = true := decide_eq_true hk4
          go_wp2_with fail
          refine HOK.out.mono ?_
          rintro e w3 ⟨rfl, rfl⟩
          go_wp2_with fail
          refine bodyPost_ret (v := .tuple #[.agg #[.int .i64 0, .int .u64 0, .int .i64 0, .int .u64 0, .string ⟨#[]⟩, .string ⟨#[]⟩, .int .i64 0, .int .i64 0, .float .f64 0, .string ⟨#[]⟩, .slice none 0 0], .bool false]) (by simp [results, Tryz.results8, go_sem, r0, r1, r2, r3, r4, r5, r6, r7, r8, r9, r10]) rfl ?_
          exact eread_no HN.out (rs_set11 HR2.out (by omega) _ _ _ _ _ _ _ _ _ _ _) (only_set11 HO2.out (by rw [← HC0.out]; omega) _ _ _ _ _ _ _ _ _ _ _)
      · have hcn : ¬ ((c : Int) = 1) := by omega
        go_wp2_with fail
        refine bodyPost_ret (v := .tuple #[.agg #[.int .i64 0, .int .u64 0, .int .i64 0, .int .u64 0, .string ⟨#[]⟩, .string ⟨#[]⟩, .int .i64 0, .int .i64 0, .float .f64 0, .string ⟨#[]⟩, .slice none 0 0], .bool false]) (by simp [results, Tryz.results8, go_sem, r0, r1, r2, r3, r4, r5, r6, r7, r8, r9, r10]) rfl ?_
        exact eread_no HN.out (rs_set11 HR2.out (by omega) _ _ _ _ _ _ _ _ _ _ _) (only_set11 HO2.out (by rw [← HC0.out]; omega) _ _ _ _ _ _ _ _ _ _ _)

end Rd
end Go.Proofs.YtcbddebmmaflgaaGreatDoor
