/- The timers of a map in order. -/
/- The activities of a map in order. -/
import Derived.Test.YtkajcldmolcllaaGreatHaar
import Derived.Test.YtkajcldmolcllaaGreatHaai
import Derived.Test.YtkajcldmolcllaaGreatHaan
set_option linter.unusedVariables false
set_option linter.unusedSimpArgs false
namespace Go.Proofs.YtkajcldmolcllaaGreat
open Go.RowKit Go.Shelf Go.Sort Go.Maps Go.ChangeMaps Go.WideShapes Go.WideMaps
def Tryz.laysSoM_ren : Go.Shelf.Ren := ⟨fun | 6 => 64 | 15 => 81 | 14 => 83 | 28 => 101 | 29 => 102 | 20 => 103 | 21 => 104 | 22 => 105 | 23 => 106 | 24 => 107 | 25 => 108 | 26 => 109 | 27 => 110 | 46 => 120 | 47 => 116 | 48 => 117 | 49 => 121 | 50 => 122 | 57 => 129 | n => n, fun | 22 => 61 | 24 => 82 | 25 => 97 | 3 => 3 | 39 => 137 | 0 => 0 | 53 => 157 | 55 => 27 | 4 => 4 | 46 => 150 | 45 => 149 | 50 => 154 | 5 => 5 | 9 => 9 | 66 => 174 | 70 => 177 | 76 => 185 | 77 => 186 | n => n, fun | n => n⟩
theorem Tryz.laysSoM : Go.Proofs.SlLaysF0.n6 Tryz.prog Tryz.laysSoM_ren := {
  mixed := by kernel_rfl
  f6 := ⟨Tryz.f64.name, by decide, Tryz.func64.trans (congrArg some (by kernel_rfl))⟩
  f14 := ⟨Tryz.f83.name, by decide, Tryz.func83.trans (congrArg some (by kernel_rfl))⟩
  f15 := Tryz.func81.trans (congrArg some (by kernel_rfl))
  f20 := ⟨Tryz.f103.name, by decide, Tryz.func103.trans (congrArg some (by kernel_rfl))⟩
  f21 := ⟨Tryz.f104.name, by decide, Tryz.func104.trans (congrArg some (by kernel_rfl))⟩
  f22 := ⟨Tryz.f105.name, by decide, Tryz.func105.trans (congrArg some (by kernel_rfl))⟩
  f23 := ⟨Tryz.f106.name, by decide, Tryz.func106.trans (congrArg some (by kernel_rfl))⟩
  f24 := ⟨Tryz.f107.name, by decide, Tryz.func107.trans (congrArg some (by kernel_rfl))⟩
  f25 := ⟨Tryz.f108.name, by decide, Tryz.func108.trans (congrArg some (by kernel_rfl))⟩
  f26 := ⟨Tryz.f109.name, by decide, Tryz.func109.trans (congrArg some (by kernel_rfl))⟩
  f27 := ⟨Tryz.f110.name, by decide, Tryz.func110.trans (congrArg some (by kernel_rfl))⟩
  f28 := Tryz.func101.trans (congrArg some (by kernel_rfl))
  f29 := Tryz.func102.trans (congrArg some (by kernel_rfl))
  f46 := ⟨Tryz.f120.name, by decide, Tryz.func120.trans (congrArg some (by kernel_rfl))⟩
  f47 := Tryz.func116.trans (congrArg some (by kernel_rfl))
  f48 := Tryz.func117.trans (congrArg some (by kernel_rfl))
  f49 := ⟨Tryz.f121.name, by decide, Tryz.func121.trans (congrArg some (by kernel_rfl))⟩
  f50 := ⟨Tryz.f122.name, by decide, Tryz.func122.trans (congrArg some (by kernel_rfl))⟩
  f57 := ⟨Tryz.f129.name, by decide, Tryz.func129.trans (congrArg some (by kernel_rfl))⟩
  t0 := Tryz.underlying0
  a0 := Tryz.isAgg0
  z0 := Tryz.sizeOf0
  v0 := Tryz.zeroValue0
  t3 := Tryz.underlying3
  a3 := Tryz.isAgg3
  z3 := Tryz.sizeOf3
  v3 := Tryz.zeroValue3
  t4 := Tryz.underlying4
  a4 := Tryz.isAgg4
  z4 := Tryz.sizeOf4
  v4 := Tryz.zeroValue4
  t5 := Tryz.underlying5
  a5 := Tryz.isAgg5
  z5 := Tryz.sizeOf5
  v5 := Tryz.zeroValue5
  t9 := Tryz.underlying9
  a9 := Tryz.isAgg9
  z9 := Tryz.sizeOf9
  v9 := Tryz.zeroValue9
  t22 := Tryz.underlying61
  a22 := Tryz.isAgg61
  z22 := Tryz.sizeOf61
  v22 := Tryz.zeroValue61
  t25 := Tryz.underlying97
  a25 := Tryz.isAgg97
  z25 := Tryz.sizeOf97
  v25 := Tryz.zeroValue97
  t39 := Tryz.underlying137
  a39 := Tryz.isAgg137
  z39 := Tryz.sizeOf137
  v39 := Tryz.zeroValue137
  t45 := Tryz.underlying149
  a45 := Tryz.isAgg149
  z45 := Tryz.sizeOf149
  v45 := Tryz.zeroValue149
  t46 := Tryz.underlying150
  a46 := Tryz.isAgg150
  z46 := Tryz.sizeOf150
  v46 := Tryz.zeroValue150
  t50 := Tryz.underlying154
  a50 := Tryz.isAgg154
  z50 := Tryz.sizeOf154
  v50 := Tryz.zeroValue154
  t53 := Tryz.underlying157
  a53 := Tryz.isAgg157
  z53 := Tryz.sizeOf157
  v53 := Tryz.zeroValue157
  t55 := Tryz.underlying27
  a55 := Tryz.isAgg27
  z55 := Tryz.sizeOf27
  v55 := Tryz.zeroValue27
  t66 := Tryz.underlying174
  a66 := Tryz.isAgg174
  z66 := Tryz.sizeOf174
  v66 := Tryz.zeroValue174
  t70 := Tryz.underlying177
  a70 := Tryz.isAgg177
  z70 := Tryz.sizeOf177
  v70 := Tryz.zeroValue177
  t76 := Tryz.underlying185
  a76 := Tryz.isAgg185
  z76 := Tryz.sizeOf185
  v76 := Tryz.zeroValue185
  t77 := Tryz.underlying186
  a77 := Tryz.isAgg186
  z77 := Tryz.sizeOf186
  v77 := Tryz.zeroValue186 }

namespace Hi
open Vt (VT Rep below_drew)
def tiEl (M : Nat → Option (Nat × Nat)) (id : Nat) : (Nat × Nat) := match M id with
 | some x => x
 | none => (id, 0)
def tiEnc (M : Nat → Option (Nat × Nat)) (id : Nat) : List Value := timerL (tiEl M id)
theorem tiEl_key {M : Nat → Option (Nat × Nat)} (hkey : ∀ id x, M id = some x → (fun x : Nat × Nat => x.1) x = id) (id : Nat) : (fun x : Nat × Nat => x.1) (tiEl M id) = id := by
 unfold tiEl
 split
 ·rename_i x hx; exact hkey id x hx
 ·rfl
theorem tiEl_flat {M : Nat → Option (Nat × Nat)} {ss : List (Nat × Nat)} (h : ∀ x ∈ ss, M ((fun x : Nat × Nat => x.1) x) = some x) : ss.flatMap timerL = (ss.map (fun x : Nat × Nat => x.1)).flatMap (tiEnc M) := by
 induction ss with
 | nil => rfl
 | cons a t ih =>
  rw [List.map_cons, List.flatMap_cons, List.flatMap_cons, ih fun x hx => h x (List.mem_cons_of_mem _ hx)]
  congr 1
  have := h a List.mem_cons_self
  unfold tiEnc tiEl
  rw [this]
theorem ti_cmp (x y : (Nat × Nat)) (W : World) : Calls Tryz.prog 44 #[.agg (timerL x).toArray, .agg (timerL y).toArray] W fun e w' => e = .returned (.int .i64 (Lv.cmp3 ((fun x : Nat × Nat => x.1) x) ((fun x : Nat × Nat => x.1) y))) ∧ ∃ q os, w' = grow (W.drewN q) os := by
 obtain ⟨x1, x2⟩ := x
 obtain ⟨y1, y2⟩ := y
 dsimp only [timerL, timerVC]
 go_enter Tryz.func44, Tryz.ntmps44
 go_wp2_with fail
 refine (Lv.cmpu_any _ _ _).mono ?_
 rintro e w' ⟨rfl, rfl⟩
 go_wp2_with fail
 go_ret
 refine ⟨rfl, 0, #[.cells (timerVC (x1, x2)) 82, .cells (timerVC (y1, y2)) 82], ?_⟩
 rw [alloc_eq_grow, alloc_eq_grow, grow_grow]
 rfl
set_option maxRecDepth 100000 in
theorem ti_collect (Bm b nn : Nat) (D : DataW Value) (M : Nat → Option (Nat × Nat)) (hM : Says D M timerV) (hkey : ∀ id x, M id = some x → (fun x : Nat × Nat => x.1) x = id) (w : World) (hBm : Bm < w.heap.size)
  (hm : w.cell? ⟨Bm, 0, none⟩ = some (.map (some b))) (hown : w.ownsMap Tryz.prog 27 HR b nn D) (hN : nn ≤ 1200000000000) :
  Calls Tryz.prog 63 #[.func (.func 65) #[] #[.pointer (some ⟨Bm, 0, none⟩)]] w fun e w' => ∃ (v : Value) (ss : List (Nat × Nat)), e = .returned v ∧ (All M (fun x : Nat × Nat => x.1) ss ∧ w'.ownsRow w.heap.size 82 2 v ss.length (ss.flatMap timerL)) ∧ (v = .slice none 0 0 ↔ ss = []) ∧ Below w.heap.size w w' := by
 have hsz := hown.size_le
 have hN2 : Maps.size D ≤ 1200000000000 := Nat.le_trans hsz hN
 have HC := Lib.hid ((callsIn_wide (n := 9)).1 (ti_append 9 (by omega) 65 #[.pointer (some ⟨Bm, 0, none⟩)] (enters_of Tryz.func65 (by kernel_rfl) rfl) (All M (fun x : Nat × Nat => x.1)) (Maps.size D) (by simp only [maxLen]; omega) (by omega) w (ti_gives Fence.wide 8 trivial rfl (by omega) Bm b nn D M hM hkey w hBm hm hown)))
 clear hM hkey hBm hm hown hN hsz hN2
 go_enter Tryz.func63, Tryz.ntmps63
 go_wp2_with fail
 refine HC.out.mono ?_
 rintro e w1 ⟨v, ss, rfl, hS, hrow, hnil, hb⟩
 have HR1 := Lib.hid (And.intro hS (And.intro hrow (And.intro hnil hb)))
 clear hS hrow hnil hb
 go_wp2_with fail
 go_ret
 obtain ⟨hS, hrow, hnil, hb⟩ := HR1.out
 exact ⟨v, ss, rfl, ⟨hS, hrow⟩, hnil, hb⟩
def tiSorted (M : Nat → Option (Nat × Nat)) (ids : List Nat) (w : World) (v : Value) (w' : World) : Prop := Below w.heap.size w w' ∧ ((ids = [] ∧ v = .slice none 0 0) ∨ ∃ blk cap, v = .slice (some ⟨blk, 0, none⟩) ids.length cap ∧ ids.length ≤ cap ∧ cap ≤ maxLen ∧ w.heap.size ≤ blk ∧ blk < w'.heap.size ∧ HoldsK (tiEnc M) 2 w' blk 0 ids.toArray)
set_option maxRecDepth 100000 in
theorem ti_sorted (Bm b nn : Nat) (D : DataW Value) (M : Nat → Option (Nat × Nat)) (hM : Says D M timerV) (hkey : ∀ id x, M id = some x → (fun x : Nat × Nat => x.1) x = id) (w : World) (hBm : Bm < w.heap.size)
  (hm : w.cell? ⟨Bm, 0, none⟩ = some (.map (some b))) (hown : w.ownsMap Tryz.prog 27 HR b nn D) (hN : nn ≤ 1200000000000) (ids : List Nat) (hi : ids.Pairwise (· < ·)) (hids : ∀ id, id ∈ ids ↔ (id < 18446744073709551616 ∧ (M id).isSome = true)) (hil : ids.length ≤ 1200000000000) :
  Calls Tryz.prog 42 #[.func (.func 65) #[] #[.pointer (some ⟨Bm, 0, none⟩)], .func (.func 44) #[] #[]] w fun e w' => ∃ v, e = .returned v ∧ tiSorted M ids w v w' := by
 have HC := Lib.hid (ti_collect Bm b nn D M hM hkey w hBm hm hown hN)
 have HK := Lib.hid hkey; have HI := Lib.hid hi; have HIDS := Lib.hid hids
 clear hM hkey hBm hm hown hN hi hids
 go_enter Tryz.func42, Tryz.ntmps42
 go_wp2_with fail
 refine HC.out.mono ?_
 rintro e w1 ⟨v, ss, rfl, ⟨hS, hrow⟩, hnil, hb⟩
 have hperm : (ss.map (fun x : Nat × Nat => x.1)).Perm ids := by
  have hnd : ids.Nodup := HI.out.imp fun h => by omega
  refine (List.perm_ext_iff_of_nodup hS.1 hnd).2 fun id => ?_
  rw [HIDS.out id]
  constructor
  ·intro h
   obtain ⟨x, hx, rfl⟩ := List.mem_map.1 h
   obtain ⟨h1, h2⟩ := hS.2.1 x hx
   exact ⟨h2, by rw [h1]; rfl⟩
  ·intro h; exact (hS.2.2 id h.1).2 h.2
 have hlen : ss.length = ids.length := by rw [← hperm.length_eq, List.length_map]
 have HPM := Lib.hid hperm
 by_cases h0 : ss = []
 ·obtain rfl : v = .slice none 0 0 := hnil.2 h0
  have hi0 : ids = [] := List.eq_nil_of_length_eq_zero (by rw [← hlen, h0]; rfl)
  have HB := Lib.hid hb
  have HI0 := Lib.hid hi0
  clear hperm hlen hrow hnil hb hS h0 hi0
  have HSO := Lib.hid (fun W => AnyF.slices_SortFunc_none Tryz.laysSoM none 0 (.func (.func 44) #[] #[]) W)
  change Hid (∀ W, Calls Tryz.prog 64 _ W _) at HSO
  go_wp2_with fail
  refine (HSO.out w1).mono ?_
  rintro e w2 ⟨rfl, rfl⟩
  go_wp2_with fail
  go_ret
  exact ⟨_, rfl, HB.out, .inl ⟨HI0.out, rfl⟩⟩
 ·have hv : ∃ blk cap, v = .slice (some ⟨blk, 0, none⟩) ss.length cap ∧ w.heap.size ≤ blk ∧ ss.length ≤ cap ∧ cap ≤ maxLen := by
   rcases hrow.2 with ⟨-, hz⟩ | ⟨g, cp, cur, q1, q2, q3, q4, q5, -⟩
   ·exact absurd (List.eq_nil_of_length_eq_zero hz) h0
   ·exact ⟨g, cp, q1, q2, q4, q5⟩
  obtain ⟨blk, cap, rfl, hbk, hc1, hc2⟩ := hv
  rw [tiEl_flat (fun x hx => (hS.2.1 x hx).1), show ss.length = (ss.map (fun x : Nat × Nat => x.1)).length from (List.length_map _).symm] at hrow
  have hsmall : (ss.map (fun x : Nat × Nat => x.1)).length < 4611686018427387904 := by rw [List.length_map]; omega
  have hso := sort_ids Tryz.laysSoM 2 (by decide) Tryz.isAgg82 Tryz.sizeOf82 (tiEnc M) (fun _ => rfl) (fun x => timerL_one _) 44 (enters_of Tryz.func44 (by kernel_rfl) rfl)
   (fun i j W => by have := ti_cmp (tiEl M i) (tiEl M j) W; rw [tiEl_key HK.out i, tiEl_key HK.out j] at this; exact this) w.heap.size blk cap 82 (ss.map (fun x : Nat × Nat => x.1)) w1 hsmall hb.size hrow
  rw [List.length_map, sortN_eq HPM.out HI.out] at hso
  have HSO := Lib.hid hso
  change Hid (Calls Tryz.prog 64 _ w1 _) at HSO
  have HB := Lib.hid hb; have HBK := Lib.hid hbk; have HCC := Lib.hid (And.intro hc1 hc2); have HLEN := Lib.hid hlen
  clear hperm hlen hrow hnil hb hS h0 hso hsmall hbk hc1 hc2
  generalize ss.length = m at *
  go_wp2_with fail
  refine HSO.out.mono ?_
  rintro e w2 ⟨rfl, hb2, hlt2, hH⟩
  have HFIN : Hid (tiSorted M ids w (.slice (some ⟨blk, 0, none⟩) m cap) w2) := Lib.hid ⟨HB.out.trans hb2, .inr ⟨blk, cap, by rw [HLEN.out], by rw [← HLEN.out]; exact HCC.out.1, HCC.out.2, HBK.out, hlt2, hH⟩⟩
  clear hb2 hlt2 hH
  go_wp2_with fail
  go_ret
  exact ⟨_, rfl, HFIN.out⟩
end Hi
end Go.Proofs.YtkajcldmolcllaaGreat
namespace Go.Proofs.YtkajcldmolcllaaGreat
open Go.RowKit Go.Shelf Go.Sort Go.Maps Go.ChangeMaps Go.WideShapes Go.WideMaps
def Tryz.laysSoT_ren : Go.Shelf.Ren := ⟨fun | 6 => 59 | 15 => 81 | 14 => 80 | 28 => 101 | 29 => 102 | 20 => 93 | 21 => 94 | 22 => 95 | 23 => 96 | 24 => 97 | 25 => 98 | 26 => 99 | 27 => 100 | 46 => 115 | 47 => 116 | 48 => 117 | 49 => 118 | 50 => 119 | 57 => 128 | n => n, fun | 22 => 59 | 24 => 72 | 25 => 91 | 3 => 3 | 39 => 137 | 0 => 0 | 53 => 157 | 55 => 27 | 4 => 4 | 46 => 150 | 45 => 149 | 50 => 154 | 5 => 5 | 9 => 9 | 66 => 174 | 70 => 177 | 76 => 185 | 77 => 186 | n => n, fun | n => n⟩
theorem Tryz.laysSoT : Go.Proofs.SlLaysF0.n6 Tryz.prog Tryz.laysSoT_ren := {
  mixed := by kernel_rfl
  f6 := ⟨Tryz.f59.name, by decide, Tryz.func59.trans (congrArg some (by kernel_rfl))⟩
  f14 := ⟨Tryz.f80.name, by decide, Tryz.func80.trans (congrArg some (by kernel_rfl))⟩
  f15 := Tryz.func81.trans (congrArg some (by kernel_rfl))
  f20 := ⟨Tryz.f93.name, by decide, Tryz.func93.trans (congrArg some (by kernel_rfl))⟩
  f21 := ⟨Tryz.f94.name, by decide, Tryz.func94.trans (congrArg some (by kernel_rfl))⟩
  f22 := ⟨Tryz.f95.name, by decide, Tryz.func95.trans (congrArg some (by kernel_rfl))⟩
  f23 := ⟨Tryz.f96.name, by decide, Tryz.func96.trans (congrArg some (by kernel_rfl))⟩
  f24 := ⟨Tryz.f97.name, by decide, Tryz.func97.trans (congrArg some (by kernel_rfl))⟩
  f25 := ⟨Tryz.f98.name, by decide, Tryz.func98.trans (congrArg some (by kernel_rfl))⟩
  f26 := ⟨Tryz.f99.name, by decide, Tryz.func99.trans (congrArg some (by kernel_rfl))⟩
  f27 := ⟨Tryz.f100.name, by decide, Tryz.func100.trans (congrArg some (by kernel_rfl))⟩
  f28 := Tryz.func101.trans (congrArg some (by kernel_rfl))
  f29 := Tryz.func102.trans (congrArg some (by kernel_rfl))
  f46 := ⟨Tryz.f115.name, by decide, Tryz.func115.trans (congrArg some (by kernel_rfl))⟩
  f47 := Tryz.func116.trans (congrArg some (by kernel_rfl))
  f48 := Tryz.func117.trans (congrArg some (by kernel_rfl))
  f49 := ⟨Tryz.f118.name, by decide, Tryz.func118.trans (congrArg some (by kernel_rfl))⟩
  f50 := ⟨Tryz.f119.name, by decide, Tryz.func119.trans (congrArg some (by kernel_rfl))⟩
  f57 := ⟨Tryz.f128.name, by decide, Tryz.func128.trans (congrArg some (by kernel_rfl))⟩
  t0 := Tryz.underlying0
  a0 := Tryz.isAgg0
  z0 := Tryz.sizeOf0
  v0 := Tryz.zeroValue0
  t3 := Tryz.underlying3
  a3 := Tryz.isAgg3
  z3 := Tryz.sizeOf3
  v3 := Tryz.zeroValue3
  t4 := Tryz.underlying4
  a4 := Tryz.isAgg4
  z4 := Tryz.sizeOf4
  v4 := Tryz.zeroValue4
  t5 := Tryz.underlying5
  a5 := Tryz.isAgg5
  z5 := Tryz.sizeOf5
  v5 := Tryz.zeroValue5
  t9 := Tryz.underlying9
  a9 := Tryz.isAgg9
  z9 := Tryz.sizeOf9
  v9 := Tryz.zeroValue9
  t22 := Tryz.underlying59
  a22 := Tryz.isAgg59
  z22 := Tryz.sizeOf59
  v22 := Tryz.zeroValue59
  t25 := Tryz.underlying91
  a25 := Tryz.isAgg91
  z25 := Tryz.sizeOf91
  v25 := Tryz.zeroValue91
  t39 := Tryz.underlying137
  a39 := Tryz.isAgg137
  z39 := Tryz.sizeOf137
  v39 := Tryz.zeroValue137
  t45 := Tryz.underlying149
  a45 := Tryz.isAgg149
  z45 := Tryz.sizeOf149
  v45 := Tryz.zeroValue149
  t46 := Tryz.underlying150
  a46 := Tryz.isAgg150
  z46 := Tryz.sizeOf150
  v46 := Tryz.zeroValue150
  t50 := Tryz.underlying154
  a50 := Tryz.isAgg154
  z50 := Tryz.sizeOf154
  v50 := Tryz.zeroValue154
  t53 := Tryz.underlying157
  a53 := Tryz.isAgg157
  z53 := Tryz.sizeOf157
  v53 := Tryz.zeroValue157
  t55 := Tryz.underlying27
  a55 := Tryz.isAgg27
  z55 := Tryz.sizeOf27
  v55 := Tryz.zeroValue27
  t66 := Tryz.underlying174
  a66 := Tryz.isAgg174
  z66 := Tryz.sizeOf174
  v66 := Tryz.zeroValue174
  t70 := Tryz.underlying177
  a70 := Tryz.isAgg177
  z70 := Tryz.sizeOf177
  v70 := Tryz.zeroValue177
  t76 := Tryz.underlying185
  a76 := Tryz.isAgg185
  z76 := Tryz.sizeOf185
  v76 := Tryz.zeroValue185
  t77 := Tryz.underlying186
  a77 := Tryz.isAgg186
  z77 := Tryz.sizeOf186
  v77 := Tryz.zeroValue186 }

namespace Hi
open Vt (VT Rep below_drew)
def taEl (M : Nat → Option TC) (id : Nat) : TC := match M id with
 | some x => x
 | none => ⟨id, ⟨#[]⟩, 0, 0, 0, ⟨#[]⟩, none, 0, 0, 0, false, 0⟩
def taEnc (M : Nat → Option TC) (id : Nat) : List Value := taskL (taEl M id)
theorem taEl_key {M : Nat → Option TC} (hkey : ∀ id x, M id = some x → TC.id x = id) (id : Nat) : TC.id (taEl M id) = id := by
 unfold taEl
 split
 ·rename_i x hx; exact hkey id x hx
 ·rfl
theorem taEl_flat {M : Nat → Option TC} {ss : List TC} (h : ∀ x ∈ ss, M (TC.id x) = some x) : ss.flatMap taskL = (ss.map TC.id).flatMap (taEnc M) := by
 induction ss with
 | nil => rfl
 | cons a t ih =>
  rw [List.map_cons, List.flatMap_cons, List.flatMap_cons, ih fun x hx => h x (List.mem_cons_of_mem _ hx)]
  congr 1
  have := h a List.mem_cons_self
  unfold taEnc taEl
  rw [this]
theorem ta_cmp (x y : TC) (W : World) : Calls Tryz.prog 39 #[.agg (taskL x).toArray, .agg (taskL y).toArray] W fun e w' => e = .returned (.int .i64 (Lv.cmp3 (TC.id x) (TC.id y))) ∧ ∃ q os, w' = grow (W.drewN q) os := by
 obtain ⟨x0, x1, x2, x3, x4, x5, x6, x7, x8, x9, x10, x11⟩ := x
 obtain ⟨y0, y1, y2, y3, y4, y5, y6, y7, y8, y9, y10, y11⟩ := y
 dsimp only [taskL, taskVCC]
 go_enter Tryz.func39, Tryz.ntmps39
 go_wp2_with fail
 refine (Lv.cmpu_any _ _ _).mono ?_
 rintro e w' ⟨rfl, rfl⟩
 go_wp2_with fail
 go_ret
 refine ⟨rfl, 0, #[.cells (taskVCC ⟨x0, x1, x2, x3, x4, x5, x6, x7, x8, x9, x10, x11⟩) 72, .cells (taskVCC ⟨y0, y1, y2, y3, y4, y5, y6, y7, y8, y9, y10, y11⟩) 72], ?_⟩
 rw [alloc_eq_grow, alloc_eq_grow, grow_grow]
 rfl
set_option maxRecDepth 100000 in
theorem ta_collect (Bm b nn : Nat) (D : DataW Value) (M : Nat → Option TC) (hM : Says D M taskVC) (hkey : ∀ id x, M id = some x → TC.id x = id) (w : World) (hBm : Bm < w.heap.size)
  (hm : w.cell? ⟨Bm, 0, none⟩ = some (.map (some b))) (hown : w.ownsMap Tryz.prog 27 HR b nn D) (hN : nn ≤ 1200000000000) :
  Calls Tryz.prog 58 #[.func (.func 60) #[] #[.pointer (some ⟨Bm, 0, none⟩)]] w fun e w' => ∃ (v : Value) (ss : List TC), e = .returned v ∧ (All M TC.id ss ∧ w'.ownsRow w.heap.size 72 10 v ss.length (ss.flatMap taskL)) ∧ (v = .slice none 0 0 ↔ ss = []) ∧ Below w.heap.size w w' := by
 have hsz := hown.size_le
 have hN2 : Maps.size D ≤ 1200000000000 := Nat.le_trans hsz hN
 have HC := Lib.hid ((callsIn_wide (n := 9)).1 (ta_append 9 (by omega) 60 #[.pointer (some ⟨Bm, 0, none⟩)] (enters_of Tryz.func60 (by kernel_rfl) rfl) (All M TC.id) (Maps.size D) (by simp only [maxLen]; omega) (by omega) w (ta_gives Fence.wide 8 trivial rfl (by omega) Bm b nn D M hM hkey w hBm hm hown)))
 clear hM hkey hBm hm hown hN hsz hN2
 go_enter Tryz.func58, Tryz.ntmps58
 go_wp2_with fail
 refine HC.out.mono ?_
 rintro e w1 ⟨v, ss, rfl, hS, hrow, hnil, hb⟩
 have HR1 := Lib.hid (And.intro hS (And.intro hrow (And.intro hnil hb)))
 clear hS hrow hnil hb
 go_wp2_with fail
 go_ret
 obtain ⟨hS, hrow, hnil, hb⟩ := HR1.out
 exact ⟨v, ss, rfl, ⟨hS, hrow⟩, hnil, hb⟩
def taSorted (M : Nat → Option TC) (ids : List Nat) (w : World) (v : Value) (w' : World) : Prop := Below w.heap.size w w' ∧ ((ids = [] ∧ v = .slice none 0 0) ∨ ∃ blk cap, v = .slice (some ⟨blk, 0, none⟩) ids.length cap ∧ ids.length ≤ cap ∧ cap ≤ maxLen ∧ w.heap.size ≤ blk ∧ blk < w'.heap.size ∧ HoldsK (taEnc M) 10 w' blk 0 ids.toArray)
set_option maxRecDepth 100000 in
theorem ta_sorted (Bm b nn : Nat) (D : DataW Value) (M : Nat → Option TC) (hM : Says D M taskVC) (hkey : ∀ id x, M id = some x → TC.id x = id) (w : World) (hBm : Bm < w.heap.size)
  (hm : w.cell? ⟨Bm, 0, none⟩ = some (.map (some b))) (hown : w.ownsMap Tryz.prog 27 HR b nn D) (hN : nn ≤ 1200000000000) (ids : List Nat) (hi : ids.Pairwise (· < ·)) (hids : ∀ id, id ∈ ids ↔ (id < 18446744073709551616 ∧ (M id).isSome = true)) (hil : ids.length ≤ 1200000000000) :
  Calls Tryz.prog 37 #[.func (.func 60) #[] #[.pointer (some ⟨Bm, 0, none⟩)], .func (.func 39) #[] #[]] w fun e w' => ∃ v, e = .returned v ∧ taSorted M ids w v w' := by
 have HC := Lib.hid (ta_collect Bm b nn D M hM hkey w hBm hm hown hN)
 have HK := Lib.hid hkey; have HI := Lib.hid hi; have HIDS := Lib.hid hids
 clear hM hkey hBm hm hown hN hi hids
 go_enter Tryz.func37, Tryz.ntmps37
 go_wp2_with fail
 refine HC.out.mono ?_
 rintro e w1 ⟨v, ss, rfl, ⟨hS, hrow⟩, hnil, hb⟩
 have hperm : (ss.map TC.id).Perm ids := by
  have hnd : ids.Nodup := HI.out.imp fun h => by omega
  refine (List.perm_ext_iff_of_nodup hS.1 hnd).2 fun id => ?_
  rw [HIDS.out id]
  constructor
  ·intro h
   obtain ⟨x, hx, rfl⟩ := List.mem_map.1 h
   obtain ⟨h1, h2⟩ := hS.2.1 x hx
   exact ⟨h2, by rw [h1]; rfl⟩
  ·intro h; exact (hS.2.2 id h.1).2 h.2
 have hlen : ss.length = ids.length := by rw [← hperm.length_eq, List.length_map]
 have HPM := Lib.hid hperm
 by_cases h0 : ss = []
 ·obtain rfl : v = .slice none 0 0 := hnil.2 h0
  have hi0 : ids = [] := List.eq_nil_of_length_eq_zero (by rw [← hlen, h0]; rfl)
  have HB := Lib.hid hb
  have HI0 := Lib.hid hi0
  clear hperm hlen hrow hnil hb hS h0 hi0
  have HSO := Lib.hid (fun W => AnyF.slices_SortFunc_none Tryz.laysSoT none 0 (.func (.func 39) #[] #[]) W)
  change Hid (∀ W, Calls Tryz.prog 59 _ W _) at HSO
  go_wp2_with fail
  refine (HSO.out w1).mono ?_
  rintro e w2 ⟨rfl, rfl⟩
  go_wp2_with fail
  go_ret
  exact ⟨_, rfl, HB.out, .inl ⟨HI0.out, rfl⟩⟩
 ·have hv : ∃ blk cap, v = .slice (some ⟨blk, 0, none⟩) ss.length cap ∧ w.heap.size ≤ blk ∧ ss.length ≤ cap ∧ cap ≤ maxLen := by
   rcases hrow.2 with ⟨-, hz⟩ | ⟨g, cp, cur, q1, q2, q3, q4, q5, -⟩
   ·exact absurd (List.eq_nil_of_length_eq_zero hz) h0
   ·exact ⟨g, cp, q1, q2, q4, q5⟩
  obtain ⟨blk, cap, rfl, hbk, hc1, hc2⟩ := hv
  rw [taEl_flat (fun x hx => (hS.2.1 x hx).1), show ss.length = (ss.map TC.id).length from (List.length_map _).symm] at hrow
  have hsmall : (ss.map TC.id).length < 4611686018427387904 := by rw [List.length_map]; omega
  have hso := sort_ids Tryz.laysSoT 10 (by decide) Tryz.isAgg72 Tryz.sizeOf72 (taEnc M) (fun _ => rfl) (fun x => taskL_one _) 39 (enters_of Tryz.func39 (by kernel_rfl) rfl)
   (fun i j W => by have := ta_cmp (taEl M i) (taEl M j) W; rw [taEl_key HK.out i, taEl_key HK.out j] at this; exact this) w.heap.size blk cap 72 (ss.map TC.id) w1 hsmall hb.size hrow
  rw [List.length_map, sortN_eq HPM.out HI.out] at hso
  have HSO := Lib.hid hso
  change Hid (Calls Tryz.prog 59 _ w1 _) at HSO
  have HB := Lib.hid hb; have HBK := Lib.hid hbk; have HCC := Lib.hid (And.intro hc1 hc2); have HLEN := Lib.hid hlen
  clear hperm hlen hrow hnil hb hS h0 hso hsmall hbk hc1 hc2
  generalize ss.length = m at *
  go_wp2_with fail
  refine HSO.out.mono ?_
  rintro e w2 ⟨rfl, hb2, hlt2, hH⟩
  have HFIN : Hid (taSorted M ids w (.slice (some ⟨blk, 0, none⟩) m cap) w2) := Lib.hid ⟨HB.out.trans hb2, .inr ⟨blk, cap, by rw [HLEN.out], by rw [← HLEN.out]; exact HCC.out.1, HCC.out.2, HBK.out, hlt2, hH⟩⟩
  clear hb2 hlt2 hH
  go_wp2_with fail
  go_ret
  exact ⟨_, rfl, HFIN.out⟩
end Hi
end Go.Proofs.YtkajcldmolcllaaGreat
