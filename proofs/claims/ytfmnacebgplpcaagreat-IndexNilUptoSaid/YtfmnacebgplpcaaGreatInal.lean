/- The timers of a map in order. -/
import Derived.Test.YtfmnacebgplpcaaGreatInak
import Derived.Test.YtfmnacebgplpcaaGreatInaf
import Derived.Test.YtfmnacebgplpcaaGreatInah
set_option maxRecDepth 100000
variable {p : Prop}
set_option linter.unusedVariables false
set_option linter.unusedSimpArgs false
namespace Go.Proofs.YtfmnacebgplpcaaGreat
open Go.RowKit Go.Shelf Go.Sort Go.Maps Go.ChangeMaps Go.WideShapes Go.WideMaps
def Tryz.laysSoM_ren : Go.Shelf.Ren := ⟨fun | 6 => 114 | 15 => 157 | 14 => 156 | 28 => 177 | 29 => 178 | 20 => 169 | 21 => 170 | 22 => 171 | 23 => 172 | 24 => 173 | 25 => 174 | 26 => 175 | 27 => 176 | 46 => 198 | 47 => 199 | 48 => 200 | 49 => 201 | 50 => 202 | 57 => 209 | n => n, fun | 22 => 87 | 24 => 90 | 25 => 129 | 3 => 3 | 39 => 211 | 0 => 0 | 53 => 246 | 55 => 30 | 4 => 4 | 46 => 239 | 45 => 238 | 50 => 243 | 5 => 5 | 9 => 9 | 66 => 263 | 70 => 266 | 76 => 270 | 77 => 271 | n => n, fun | n => n⟩
theorem Tryz.laysSoM : Go.Proofs.SlLaysF0.n6 Tryz.prog Tryz.laysSoM_ren := {
  mixed := by kernel_rfl
  f6 := ⟨Tryz.f114.name, by decide, Tryz.func114.trans (congrArg some (by kernel_rfl))⟩
  f14 := ⟨Tryz.f156.name, by decide, Tryz.func156.trans (congrArg some (by kernel_rfl))⟩
  f15 := Tryz.func157.trans (congrArg some (by kernel_rfl))
  f20 := ⟨Tryz.f169.name, by decide, Tryz.func169.trans (congrArg some (by kernel_rfl))⟩
  f21 := ⟨Tryz.f170.name, by decide, Tryz.func170.trans (congrArg some (by kernel_rfl))⟩
  f22 := ⟨Tryz.f171.name, by decide, Tryz.func171.trans (congrArg some (by kernel_rfl))⟩
  f23 := ⟨Tryz.f172.name, by decide, Tryz.func172.trans (congrArg some (by kernel_rfl))⟩
  f24 := ⟨Tryz.f173.name, by decide, Tryz.func173.trans (congrArg some (by kernel_rfl))⟩
  f25 := ⟨Tryz.f174.name, by decide, Tryz.func174.trans (congrArg some (by kernel_rfl))⟩
  f26 := ⟨Tryz.f175.name, by decide, Tryz.func175.trans (congrArg some (by kernel_rfl))⟩
  f27 := ⟨Tryz.f176.name, by decide, Tryz.func176.trans (congrArg some (by kernel_rfl))⟩
  f28 := Tryz.func177.trans (congrArg some (by kernel_rfl))
  f29 := Tryz.func178.trans (congrArg some (by kernel_rfl))
  f46 := ⟨Tryz.f198.name, by decide, Tryz.func198.trans (congrArg some (by kernel_rfl))⟩
  f47 := Tryz.func199.trans (congrArg some (by kernel_rfl))
  f48 := Tryz.func200.trans (congrArg some (by kernel_rfl))
  f49 := ⟨Tryz.f201.name, by decide, Tryz.func201.trans (congrArg some (by kernel_rfl))⟩
  f50 := ⟨Tryz.f202.name, by decide, Tryz.func202.trans (congrArg some (by kernel_rfl))⟩
  f57 := ⟨Tryz.f209.name, by decide, Tryz.func209.trans (congrArg some (by kernel_rfl))⟩
  t0 := Tryz.underlying0
  a0 := Tryz.isAgg0
  z0 := Tryz.sizeOf0
  v0 := Tryz.zeroValue0
  t3 := Tryz.underlying3
  a3 := Tryz.isAgg3
  z3 := Tryz.sizeOf3
  v3 := Tryz.zeroValue3
  t4 := Tryz.underlying4
  a4 := Tryz.isAgg4
  z4 := Tryz.sizeOf4
  v4 := Tryz.zeroValue4
  t5 := Tryz.underlying5
  a5 := Tryz.isAgg5
  z5 := Tryz.sizeOf5
  v5 := Tryz.zeroValue5
  t9 := Tryz.underlying9
  a9 := Tryz.isAgg9
  z9 := Tryz.sizeOf9
  v9 := Tryz.zeroValue9
  t22 := Tryz.underlying87
  a22 := Tryz.isAgg87
  z22 := Tryz.sizeOf87
  v22 := Tryz.zeroValue87
  t25 := Tryz.underlying129
  a25 := Tryz.isAgg129
  z25 := Tryz.sizeOf129
  v25 := Tryz.zeroValue129
  t39 := Tryz.underlying211
  a39 := Tryz.isAgg211
  z39 := Tryz.sizeOf211
  v39 := Tryz.zeroValue211
  t45 := Tryz.underlying238
  a45 := Tryz.isAgg238
  z45 := Tryz.sizeOf238
  v45 := Tryz.zeroValue238
  t46 := Tryz.underlying239
  a46 := Tryz.isAgg239
  z46 := Tryz.sizeOf239
  v46 := Tryz.zeroValue239
  t50 := Tryz.underlying243
  a50 := Tryz.isAgg243
  z50 := Tryz.sizeOf243
  v50 := Tryz.zeroValue243
  t53 := Tryz.underlying246
  a53 := Tryz.isAgg246
  z53 := Tryz.sizeOf246
  v53 := Tryz.zeroValue246
  t55 := Tryz.underlying30
  a55 := Tryz.isAgg30
  z55 := Tryz.sizeOf30
  v55 := Tryz.zeroValue30
  t66 := Tryz.underlying263
  a66 := Tryz.isAgg263
  z66 := Tryz.sizeOf263
  v66 := Tryz.zeroValue263
  t70 := Tryz.underlying266
  a70 := Tryz.isAgg266
  z70 := Tryz.sizeOf266
  v70 := Tryz.zeroValue266
  t76 := Tryz.underlying270
  a76 := Tryz.isAgg270
  z76 := Tryz.sizeOf270
  v76 := Tryz.zeroValue270
  t77 := Tryz.underlying271
  a77 := Tryz.isAgg271
  z77 := Tryz.sizeOf271
  v77 := Tryz.zeroValue271 }
namespace Hi
open Vt (VT Rep Da)
def VX (M : Nat → Option (Nat × Nat)) (id : Nat) : (Nat × Nat) := match M id with
 | some x => x
 | none => (id, 0)
def UD (M : Nat → Option (Nat × Nat)) (id : Nat) : List Value := DS (VX M id)
theorem VW {M : Nat → Option (Nat × Nat)} (hkey : ∀ id x, M id = some x → (fun x : Nat × Nat => x.1) x = id) (id : Nat) : (fun x : Nat × Nat => x.1) (VX M id) = id := by
 unfold VX
 split
 ·rename_i x hx; exact hkey id x hx
 ·rfl
theorem Kt {M : Nat → Option (Nat × Nat)} {ss : List (Nat × Nat)} (h : ∀ x ∈ ss, M ((fun x : Nat × Nat => x.1) x) = some x) : ss.flatMap DS = (ss.map (fun x : Nat × Nat => x.1)).flatMap (UD M) := by
 induction ss with
 | nil => rfl
 | cons a t ih =>
  rw [List.map_cons, List.flatMap_cons, List.flatMap_cons, ih fun x hx => h x (List.mem_cons_of_mem _ hx)]
  congr 1
  have := h a List.mem_cons_self
  unfold UD VX
  rw [this]
theorem ti_cmp (x y : (Nat × Nat)) (W : World) : Calls Tryz.prog 77 #[.agg (DS x).toArray, .agg (DS y).toArray] W fun e w' => e = .returned (.int .i64 (Lv.Po ((fun x : Nat × Nat => x.1) x) ((fun x : Nat × Nat => x.1) y))) ∧ ∃ q os, w' = grow (W.drewN q) os := by
 obtain ⟨x1, x2⟩ := x
 obtain ⟨y1, y2⟩ := y
 dsimp only [DS, Ga]
 go_enter Tryz.func77, Tryz.ntmps77
 go_wp2_with fail
 refine (Lv.Ye _ _ _).mono ?_
 rintro e w' ⟨rfl, rfl⟩
 go_wp2_with fail
 go_ret
 refine ⟨rfl, 0, #[.cells (Ga (x1, x2)) 90, .cells (Ga (y1, y2)) 90], ?_⟩
 rw [alloc_eq_grow, alloc_eq_grow, grow_grow]
 rfl
theorem M79 (h : p := by
 go_wp2_with fail
 refine HC.out.mono ?_
 rintro e w1 ⟨v, ss, rfl, hS, hrow, hnil, hb⟩
 have HR1 := Lib.hid (And.intro hS (And.intro hrow (And.intro hnil hb)))
 clear hS hrow hnil hb
 go_wp2_with fail
 go_ret
 obtain ⟨hS, hrow, hnil, hb⟩ := HR1.out
 exact ⟨v, ss, rfl, ⟨hS, hrow⟩, hnil, hb⟩) : p := h
theorem YD (Bm b nn : Nat) (D : DataW Value) (M : Nat → Option (Nat × Nat)) (hM : Uu D M FS) (hkey : ∀ id x, M id = some x → (fun x : Nat × Nat => x.1) x = id) (w : World) (hBm : Bm < w.heap.size)
  (hm : w.cell? ⟨Bm, 0, none⟩ = some (.map (some b))) (hown : w.ownsMap Tryz.prog 30 HR b nn D) (hN : nn ≤ 1200000000000) :
  Calls Tryz.prog 113 #[.func (.func 115) #[] #[.pointer (some ⟨Bm, 0, none⟩)]] w fun e w' => ∃ (v : Value) (ss : List (Nat × Nat)), e = .returned v ∧ (All M (fun x : Nat × Nat => x.1) ss ∧ w'.ownsRow w.heap.size 90 2 v ss.length (ss.flatMap DS)) ∧ (v = .slice none 0 0 ↔ ss = []) ∧ Below w.heap.size w w' := by
 have hsz := hown.size_le
 have hN2 : Maps.size D ≤ 1200000000000 := Nat.le_trans hsz hN
 have HC := Lib.hid ((callsIn_wide (n := 9)).1 (Ks 9 (by omega) 115 #[.pointer (some ⟨Bm, 0, none⟩)] (enters_of Tryz.func115 (by kernel_rfl) rfl) (All M (fun x : Nat × Nat => x.1)) (Maps.size D) (by simp only [maxLen]; omega) (by omega) w (ti_gives Fence.wide 8 trivial rfl (by omega) Bm b nn D M hM hkey w hBm hm hown)))
 clear hM hkey hBm hm hown hN hsz hN2
 go_enter Tryz.func113, Tryz.ntmps113
 exact M79
def VV (M : Nat → Option (Nat × Nat)) (ids : List Nat) (w : World) (v : Value) (w' : World) : Prop := Below w.heap.size w w' ∧ ((ids = [] ∧ v = .slice none 0 0) ∨ ∃ blk cap, v = .slice (some ⟨blk, 0, none⟩) ids.length cap ∧ ids.length ≤ cap ∧ cap ≤ maxLen ∧ w.heap.size ≤ blk ∧ blk < w'.heap.size ∧ HoldsK (UD M) 2 w' blk 0 ids.toArray)
theorem M76 (h : p := by
 have hnd : ids.Nodup := HI.out.imp fun h => by omega
 refine (List.perm_ext_iff_of_nodup hS.1 hnd).2 fun id => ?_
 rw [HIDS.out id]
 constructor
 ·intro h
  obtain ⟨x, hx, rfl⟩ := List.mem_map.1 h
  obtain ⟨h1, h2⟩ := hS.2.1 x hx
  exact ⟨h2, by rw [h1]; rfl⟩
 ·intro h; exact (hS.2.2 id h.1).2 h.2) : p := h
theorem M131 (h : p := by
 rcases hrow.2 with ⟨-, hz⟩ | ⟨g, cp, cur, q1, q2, q3, q4, q5, -⟩
 ·exact absurd (List.eq_nil_of_length_eq_zero hz) h0
 ·exact ⟨g, cp, q1, q2, q4, q5⟩) : p := h
theorem M139 (h : p := by
 go_wp2_with fail
 refine (HSO.out w1).mono ?_
 rintro e w2 ⟨rfl, rfl⟩
 go_wp2_with fail
 go_ret
 exact ⟨_, rfl, HB.out, .inl ⟨HI0.out, rfl⟩⟩) : p := h
theorem Q630.Y629 (h : p := by
 have HFIN : Hid (VV M ids w (.slice (some ⟨blk, 0, none⟩) m cap) w2) := Lib.hid ⟨HB.out.trans hb2, .inr ⟨blk, cap, by rw [HLEN.out], by rw [← HLEN.out]; exact HCC.out.1, HCC.out.2, HBK.out, hlt2, hH⟩⟩
 clear hb2 hlt2 hH
 go_wp2_with fail
 go_ret
 exact ⟨_, rfl, HFIN.out⟩) : p := h
theorem M629 (h : p := by
 have HB := Lib.hid hb; have HBK := Lib.hid hbk; have HCC := Lib.hid (And.intro hc1 hc2); have HLEN := Lib.hid hlen
 clear hperm hlen hrow hnil hb hS h0 hso hsmall hbk hc1 hc2
 generalize ss.length = m at *
 go_wp2_with fail
 refine HSO.out.mono ?_
 rintro e w2 ⟨rfl, hb2, hlt2, hH⟩
 exact Y629) : p := h
theorem Kr (Bm b nn : Nat) (D : DataW Value) (M : Nat → Option (Nat × Nat)) (hM : Uu D M FS) (hkey : ∀ id x, M id = some x → (fun x : Nat × Nat => x.1) x = id) (w : World) (hBm : Bm < w.heap.size)
  (hm : w.cell? ⟨Bm, 0, none⟩ = some (.map (some b))) (hown : w.ownsMap Tryz.prog 30 HR b nn D) (hN : nn ≤ 1200000000000) (ids : List Nat) (hi : ids.Pairwise (· < ·)) (hids : ∀ id, id ∈ ids ↔ (id < 18446744073709551616 ∧ (M id).isSome = true)) (hil : ids.length ≤ 1200000000000) :
  Calls Tryz.prog 75 #[.func (.func 115) #[] #[.pointer (some ⟨Bm, 0, none⟩)], .func (.func 77) #[] #[]] w fun e w' => ∃ v, e = .returned v ∧ VV M ids w v w' := by
 have HC := Lib.hid (YD Bm b nn D M hM hkey w hBm hm hown hN)
 have HK := Lib.hid hkey; have HI := Lib.hid hi; have HIDS := Lib.hid hids
 clear hM hkey hBm hm hown hN hi hids
 go_enter Tryz.func75, Tryz.ntmps75
 go_wp2_with fail
 refine HC.out.mono ?_
 rintro e w1 ⟨v, ss, rfl, ⟨hS, hrow⟩, hnil, hb⟩
 have hperm : (ss.map (fun x : Nat × Nat => x.1)).Perm ids := by
  exact M76
 have hlen : ss.length = ids.length := by rw [← hperm.length_eq, List.length_map]
 have HPM := Lib.hid hperm
 by_cases h0 : ss = []
 ·obtain rfl : v = .slice none 0 0 := hnil.2 h0
  have hi0 : ids = [] := List.eq_nil_of_length_eq_zero (by rw [← hlen, h0]; rfl)
  have HB := Lib.hid hb
  have HI0 := Lib.hid hi0
  clear hperm hlen hrow hnil hb hS h0 hi0
  have HSO := Lib.hid (fun W => AnyF.slices_SortFunc_none Tryz.laysSoM none 0 (.func (.func 77) #[] #[]) W)
  change Hid (∀ W, Calls Tryz.prog 114 _ W _) at HSO
  exact M139
 ·have hv : ∃ blk cap, v = .slice (some ⟨blk, 0, none⟩) ss.length cap ∧ w.heap.size ≤ blk ∧ ss.length ≤ cap ∧ cap ≤ maxLen := by
   exact M131
  obtain ⟨blk, cap, rfl, hbk, hc1, hc2⟩ := hv
  rw [Kt (fun x hx => (hS.2.1 x hx).1), show ss.length = (ss.map (fun x : Nat × Nat => x.1)).length from (List.length_map _).symm] at hrow
  have hsmall : (ss.map (fun x : Nat × Nat => x.1)).length < 4611686018427387904 := by rw [List.length_map]; omega
  have hso := Xg Tryz.laysSoM 2 (by decide) Tryz.isAgg90 Tryz.sizeOf90 (UD M) (fun _ => rfl) (fun x => Ss _) 77 (enters_of Tryz.func77 (by kernel_rfl) rfl)
   (fun i j W => by have := ti_cmp (VX M i) (VX M j) W; rw [VW HK.out i, VW HK.out j] at this; exact this) w.heap.size blk cap 90 (ss.map (fun x : Nat × Nat => x.1)) w1 hsmall hb.size hrow
  rw [List.length_map, Xh HPM.out HI.out] at hso
  have HSO := Lib.hid hso
  change Hid (Calls Tryz.prog 114 _ w1 _) at HSO
  open Q630 in exact M629
end Hi
end Go.Proofs.YtfmnacebgplpcaaGreat
namespace Go.Proofs.YtfmnacebgplpcaaGreat
open Go.RowKit Go.Shelf Go.Sort Go.Maps Go.ChangeMaps Go.WideShapes Go.WideMaps
def Tryz.laysSoT_ren : Go.Shelf.Ren := ⟨fun | 6 => 120 | 15 => 157 | 14 => 160 | 28 => 177 | 29 => 178 | 20 => 180 | 21 => 181 | 22 => 182 | 23 => 183 | 24 => 184 | 25 => 185 | 26 => 186 | 27 => 187 | 46 => 203 | 47 => 199 | 48 => 200 | 49 => 204 | 50 => 205 | 57 => 210 | n => n, fun | 22 => 97 | 24 => 132 | 25 => 139 | 3 => 3 | 39 => 211 | 0 => 0 | 53 => 246 | 55 => 30 | 4 => 4 | 46 => 239 | 45 => 238 | 50 => 243 | 5 => 5 | 9 => 9 | 66 => 263 | 70 => 266 | 76 => 270 | 77 => 271 | n => n, fun | n => n⟩
theorem Tryz.laysSoT : Go.Proofs.SlLaysF0.n6 Tryz.prog Tryz.laysSoT_ren := {
  mixed := by kernel_rfl
  f6 := ⟨Tryz.f120.name, by decide, Tryz.func120.trans (congrArg some (by kernel_rfl))⟩
  f14 := ⟨Tryz.f160.name, by decide, Tryz.func160.trans (congrArg some (by kernel_rfl))⟩
  f15 := Tryz.func157.trans (congrArg some (by kernel_rfl))
  f20 := ⟨Tryz.f180.name, by decide, Tryz.func180.trans (congrArg some (by kernel_rfl))⟩
  f21 := ⟨Tryz.f181.name, by decide, Tryz.func181.trans (congrArg some (by kernel_rfl))⟩
  f22 := ⟨Tryz.f182.name, by decide, Tryz.func182.trans (congrArg some (by kernel_rfl))⟩
  f23 := ⟨Tryz.f183.name, by decide, Tryz.func183.trans (congrArg some (by kernel_rfl))⟩
  f24 := ⟨Tryz.f184.name, by decide, Tryz.func184.trans (congrArg some (by kernel_rfl))⟩
  f25 := ⟨Tryz.f185.name, by decide, Tryz.func185.trans (congrArg some (by kernel_rfl))⟩
  f26 := ⟨Tryz.f186.name, by decide, Tryz.func186.trans (congrArg some (by kernel_rfl))⟩
  f27 := ⟨Tryz.f187.name, by decide, Tryz.func187.trans (congrArg some (by kernel_rfl))⟩
  f28 := Tryz.func177.trans (congrArg some (by kernel_rfl))
  f29 := Tryz.func178.trans (congrArg some (by kernel_rfl))
  f46 := ⟨Tryz.f203.name, by decide, Tryz.func203.trans (congrArg some (by kernel_rfl))⟩
  f47 := Tryz.func199.trans (congrArg some (by kernel_rfl))
  f48 := Tryz.func200.trans (congrArg some (by kernel_rfl))
  f49 := ⟨Tryz.f204.name, by decide, Tryz.func204.trans (congrArg some (by kernel_rfl))⟩
  f50 := ⟨Tryz.f205.name, by decide, Tryz.func205.trans (congrArg some (by kernel_rfl))⟩
  f57 := ⟨Tryz.f210.name, by decide, Tryz.func210.trans (congrArg some (by kernel_rfl))⟩
  t0 := Tryz.underlying0
  a0 := Tryz.isAgg0
  z0 := Tryz.sizeOf0
  v0 := Tryz.zeroValue0
  t3 := Tryz.underlying3
  a3 := Tryz.isAgg3
  z3 := Tryz.sizeOf3
  v3 := Tryz.zeroValue3
  t4 := Tryz.underlying4
  a4 := Tryz.isAgg4
  z4 := Tryz.sizeOf4
  v4 := Tryz.zeroValue4
  t5 := Tryz.underlying5
  a5 := Tryz.isAgg5
  z5 := Tryz.sizeOf5
  v5 := Tryz.zeroValue5
  t9 := Tryz.underlying9
  a9 := Tryz.isAgg9
  z9 := Tryz.sizeOf9
  v9 := Tryz.zeroValue9
  t22 := Tryz.underlying97
  a22 := Tryz.isAgg97
  z22 := Tryz.sizeOf97
  v22 := Tryz.zeroValue97
  t25 := Tryz.underlying139
  a25 := Tryz.isAgg139
  z25 := Tryz.sizeOf139
  v25 := Tryz.zeroValue139
  t39 := Tryz.underlying211
  a39 := Tryz.isAgg211
  z39 := Tryz.sizeOf211
  v39 := Tryz.zeroValue211
  t45 := Tryz.underlying238
  a45 := Tryz.isAgg238
  z45 := Tryz.sizeOf238
  v45 := Tryz.zeroValue238
  t46 := Tryz.underlying239
  a46 := Tryz.isAgg239
  z46 := Tryz.sizeOf239
  v46 := Tryz.zeroValue239
  t50 := Tryz.underlying243
  a50 := Tryz.isAgg243
  z50 := Tryz.sizeOf243
  v50 := Tryz.zeroValue243
  t53 := Tryz.underlying246
  a53 := Tryz.isAgg246
  z53 := Tryz.sizeOf246
  v53 := Tryz.zeroValue246
  t55 := Tryz.underlying30
  a55 := Tryz.isAgg30
  z55 := Tryz.sizeOf30
  v55 := Tryz.zeroValue30
  t66 := Tryz.underlying263
  a66 := Tryz.isAgg263
  z66 := Tryz.sizeOf263
  v66 := Tryz.zeroValue263
  t70 := Tryz.underlying266
  a70 := Tryz.isAgg266
  z70 := Tryz.sizeOf266
  v70 := Tryz.zeroValue266
  t76 := Tryz.underlying270
  a76 := Tryz.isAgg270
  z76 := Tryz.sizeOf270
  v76 := Tryz.zeroValue270
  t77 := Tryz.underlying271
  a77 := Tryz.isAgg271
  z77 := Tryz.sizeOf271
  v77 := Tryz.zeroValue271 }
namespace Hi
open Vt (VT Rep Da)
def Xe (M : Nat → Option TC) (id : Nat) : TC := match M id with
 | some x => x
 | none => ⟨id, ⟨#[]⟩, 0, 0, 0, ⟨#[]⟩, none, 0, 0, 0, false, 0⟩
def Sw (M : Nat → Option TC) (id : Nat) : List Value := Gt (Xe M id)
theorem Xd {M : Nat → Option TC} (hkey : ∀ id x, M id = some x → TC.id x = id) (id : Nat) : TC.id (Xe M id) = id := by
 unfold Xe
 split
 ·rename_i x hx; exact hkey id x hx
 ·rfl
theorem KE {M : Nat → Option TC} {ss : List TC} (h : ∀ x ∈ ss, M (TC.id x) = some x) : ss.flatMap Gt = (ss.map TC.id).flatMap (Sw M) := by
 induction ss with
 | nil => rfl
 | cons a t ih =>
  rw [List.map_cons, List.flatMap_cons, List.flatMap_cons, ih fun x hx => h x (List.mem_cons_of_mem _ hx)]
  congr 1
  have := h a List.mem_cons_self
  unfold Sw Xe
  rw [this]
theorem ta_cmp (x y : TC) (W : World) : Calls Tryz.prog 83 #[.agg (Gt x).toArray, .agg (Gt y).toArray] W fun e w' => e = .returned (.int .i64 (Lv.Po (TC.id x) (TC.id y))) ∧ ∃ q os, w' = grow (W.drewN q) os := by
 obtain ⟨x0, x1, x2, x3, x4, x5, x6, x7, x8, x9, x10, x11⟩ := x
 obtain ⟨y0, y1, y2, y3, y4, y5, y6, y7, y8, y9, y10, y11⟩ := y
 dsimp only [Gt, DY]
 go_enter Tryz.func83, Tryz.ntmps83
 go_wp2_with fail
 refine (Lv.Ye _ _ _).mono ?_
 rintro e w' ⟨rfl, rfl⟩
 go_wp2_with fail
 go_ret
 refine ⟨rfl, 0, #[.cells (DY ⟨x0, x1, x2, x3, x4, x5, x6, x7, x8, x9, x10, x11⟩) 132, .cells (DY ⟨y0, y1, y2, y3, y4, y5, y6, y7, y8, y9, y10, y11⟩) 132], ?_⟩
 rw [alloc_eq_grow, alloc_eq_grow, grow_grow]
 rfl
theorem YF (Bm b nn : Nat) (D : DataW Value) (M : Nat → Option TC) (hM : Uu D M FW) (hkey : ∀ id x, M id = some x → TC.id x = id) (w : World) (hBm : Bm < w.heap.size)
  (hm : w.cell? ⟨Bm, 0, none⟩ = some (.map (some b))) (hown : w.ownsMap Tryz.prog 30 HR b nn D) (hN : nn ≤ 1200000000000) :
  Calls Tryz.prog 119 #[.func (.func 121) #[] #[.pointer (some ⟨Bm, 0, none⟩)]] w fun e w' => ∃ (v : Value) (ss : List TC), e = .returned v ∧ (All M TC.id ss ∧ w'.ownsRow w.heap.size 132 10 v ss.length (ss.flatMap Gt)) ∧ (v = .slice none 0 0 ↔ ss = []) ∧ Below w.heap.size w w' := by
 have hsz := hown.size_le
 have hN2 : Maps.size D ≤ 1200000000000 := Nat.le_trans hsz hN
 have HC := Lib.hid ((callsIn_wide (n := 9)).1 (KC 9 (by omega) 121 #[.pointer (some ⟨Bm, 0, none⟩)] (enters_of Tryz.func121 (by kernel_rfl) rfl) (All M TC.id) (Maps.size D) (by simp only [maxLen]; omega) (by omega) w (ta_gives Fence.wide 8 trivial rfl (by omega) Bm b nn D M hM hkey w hBm hm hown)))
 clear hM hkey hBm hm hown hN hsz hN2
 go_enter Tryz.func119, Tryz.ntmps119
 exact M79
def Xc (M : Nat → Option TC) (ids : List Nat) (w : World) (v : Value) (w' : World) : Prop := Below w.heap.size w w' ∧ ((ids = [] ∧ v = .slice none 0 0) ∨ ∃ blk cap, v = .slice (some ⟨blk, 0, none⟩) ids.length cap ∧ ids.length ≤ cap ∧ cap ≤ maxLen ∧ w.heap.size ≤ blk ∧ blk < w'.heap.size ∧ HoldsK (Sw M) 10 w' blk 0 ids.toArray)
theorem Q631.Y629 (h : p := by
 have HFIN : Hid (Xc M ids w (.slice (some ⟨blk, 0, none⟩) m cap) w2) := Lib.hid ⟨HB.out.trans hb2, .inr ⟨blk, cap, by rw [HLEN.out], by rw [← HLEN.out]; exact HCC.out.1, HCC.out.2, HBK.out, hlt2, hH⟩⟩
 clear hb2 hlt2 hH
 go_wp2_with fail
 go_ret
 exact ⟨_, rfl, HFIN.out⟩) : p := h
theorem Kz (Bm b nn : Nat) (D : DataW Value) (M : Nat → Option TC) (hM : Uu D M FW) (hkey : ∀ id x, M id = some x → TC.id x = id) (w : World) (hBm : Bm < w.heap.size)
  (hm : w.cell? ⟨Bm, 0, none⟩ = some (.map (some b))) (hown : w.ownsMap Tryz.prog 30 HR b nn D) (hN : nn ≤ 1200000000000) (ids : List Nat) (hi : ids.Pairwise (· < ·)) (hids : ∀ id, id ∈ ids ↔ (id < 18446744073709551616 ∧ (M id).isSome = true)) (hil : ids.length ≤ 1200000000000) :
  Calls Tryz.prog 81 #[.func (.func 121) #[] #[.pointer (some ⟨Bm, 0, none⟩)], .func (.func 83) #[] #[]] w fun e w' => ∃ v, e = .returned v ∧ Xc M ids w v w' := by
 have HC := Lib.hid (YF Bm b nn D M hM hkey w hBm hm hown hN)
 have HK := Lib.hid hkey; have HI := Lib.hid hi; have HIDS := Lib.hid hids
 clear hM hkey hBm hm hown hN hi hids
 go_enter Tryz.func81, Tryz.ntmps81
 go_wp2_with fail
 refine HC.out.mono ?_
 rintro e w1 ⟨v, ss, rfl, ⟨hS, hrow⟩, hnil, hb⟩
 have hperm : (ss.map TC.id).Perm ids := by
  exact M76
 have hlen : ss.length = ids.length := by rw [← hperm.length_eq, List.length_map]
 have HPM := Lib.hid hperm
 by_cases h0 : ss = []
 ·obtain rfl : v = .slice none 0 0 := hnil.2 h0
  have hi0 : ids = [] := List.eq_nil_of_length_eq_zero (by rw [← hlen, h0]; rfl)
  have HB := Lib.hid hb
  have HI0 := Lib.hid hi0
  clear hperm hlen hrow hnil hb hS h0 hi0
  have HSO := Lib.hid (fun W => AnyF.slices_SortFunc_none Tryz.laysSoT none 0 (.func (.func 83) #[] #[]) W)
  change Hid (∀ W, Calls Tryz.prog 120 _ W _) at HSO
  exact M139
 ·have hv : ∃ blk cap, v = .slice (some ⟨blk, 0, none⟩) ss.length cap ∧ w.heap.size ≤ blk ∧ ss.length ≤ cap ∧ cap ≤ maxLen := by
   exact M131
  obtain ⟨blk, cap, rfl, hbk, hc1, hc2⟩ := hv
  rw [KE (fun x hx => (hS.2.1 x hx).1), show ss.length = (ss.map TC.id).length from (List.length_map _).symm] at hrow
  have hsmall : (ss.map TC.id).length < 4611686018427387904 := by rw [List.length_map]; omega
  have hso := Xg Tryz.laysSoT 10 (by decide) Tryz.isAgg132 Tryz.sizeOf132 (Sw M) (fun _ => rfl) (fun x => UF _) 83 (enters_of Tryz.func83 (by kernel_rfl) rfl)
   (fun i j W => by have := ta_cmp (Xe M i) (Xe M j) W; rw [Xd HK.out i, Xd HK.out j] at this; exact this) w.heap.size blk cap 132 (ss.map TC.id) w1 hsmall hb.size hrow
  rw [List.length_map, Xh HPM.out HI.out] at hso
  have HSO := Lib.hid hso
  change Hid (Calls Tryz.prog 120 _ w1 _) at HSO
  open Q631 in exact M629
end Hi
end Go.Proofs.YtfmnacebgplpcaaGreat
