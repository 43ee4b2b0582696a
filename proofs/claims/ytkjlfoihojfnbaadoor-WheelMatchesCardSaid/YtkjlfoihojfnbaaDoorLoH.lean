/- Sorting a slot's items; Take. -/
import Derived.Test.YtkjlfoihojfnbaaDoorLoB
import Derived.Test.YtkjlfoihojfnbaaDoorLoC
import Derived.Shelf.SlSortCmp.NoneTotal
namespace Go.Proofs.YtkjlfoihojfnbaaDoor
open Go.RowKit Go.Shelf Go.Lib Go.Sort
set_option linter.unusedVariables false
set_option linter.unusedSimpArgs false

def Tryd.laysSort_ren : Go.Shelf.Ren := ⟨fun | 6 => 44 | 15 => 60 | 14 => 59 | 28 => 73 | 29 => 74 | 20 => 65 | 21 => 66 | 22 => 67 | 23 => 68 | 24 => 69 | 25 => 70 | 26 => 71 | 27 => 72 | 46 => 76 | 47 => 77 | 48 => 78 | 49 => 79 | 50 => 80 | 57 => 81 | n => n, fun | 22 => 39 | 24 => 34 | 25 => 83 | 3 => 3 | 39 => 104 | 0 => 0 | 53 => 117 | 55 => 27 | 4 => 4 | 46 => 110 | 45 => 109 | 50 => 114 | 5 => 5 | 9 => 9 | 66 => 119 | 70 => 122 | 76 => 124 | 77 => 125 | n => n, fun | n => n⟩
theorem Tryd.laysSort : Go.Proofs.SlLaysF0.n6 Tryd.prog Tryd.laysSort_ren := {
  mixed := by kernel_rfl
  f6 := ⟨Tryd.f44.name, by decide, Tryd.func44.trans (congrArg some (by kernel_rfl))⟩
  f14 := ⟨Tryd.f59.name, by decide, Tryd.func59.trans (congrArg some (by kernel_rfl))⟩
  f15 := Tryd.func60.trans (congrArg some (by kernel_rfl))
  f20 := ⟨Tryd.f65.name, by decide, Tryd.func65.trans (congrArg some (by kernel_rfl))⟩
  f21 := ⟨Tryd.f66.name, by decide, Tryd.func66.trans (congrArg some (by kernel_rfl))⟩
  f22 := ⟨Tryd.f67.name, by decide, Tryd.func67.trans (congrArg some (by kernel_rfl))⟩
  f23 := ⟨Tryd.f68.name, by decide, Tryd.func68.trans (congrArg some (by kernel_rfl))⟩
  f24 := ⟨Tryd.f69.name, by decide, Tryd.func69.trans (congrArg some (by kernel_rfl))⟩
  f25 := ⟨Tryd.f70.name, by decide, Tryd.func70.trans (congrArg some (by kernel_rfl))⟩
  f26 := ⟨Tryd.f71.name, by decide, Tryd.func71.trans (congrArg some (by kernel_rfl))⟩
  f27 := ⟨Tryd.f72.name, by decide, Tryd.func72.trans (congrArg some (by kernel_rfl))⟩
  f28 := Tryd.func73.trans (congrArg some (by kernel_rfl))
  f29 := Tryd.func74.trans (congrArg some (by kernel_rfl))
  f46 := ⟨Tryd.f76.name, by decide, Tryd.func76.trans (congrArg some (by kernel_rfl))⟩
  f47 := Tryd.func77.trans (congrArg some (by kernel_rfl))
  f48 := Tryd.func78.trans (congrArg some (by kernel_rfl))
  f49 := ⟨Tryd.f79.name, by decide, Tryd.func79.trans (congrArg some (by kernel_rfl))⟩
  f50 := ⟨Tryd.f80.name, by decide, Tryd.func80.trans (congrArg some (by kernel_rfl))⟩
  f57 := ⟨Tryd.f81.name, by decide, Tryd.func81.trans (congrArg some (by kernel_rfl))⟩
  t0 := Tryd.underlying0
  a0 := Tryd.isAgg0
  z0 := Tryd.sizeOf0
  v0 := Tryd.zeroValue0
  t3 := Tryd.underlying3
  a3 := Tryd.isAgg3
  z3 := Tryd.sizeOf3
  v3 := Tryd.zeroValue3
  t4 := Tryd.underlying4
  a4 := Tryd.isAgg4
  z4 := Tryd.sizeOf4
  v4 := Tryd.zeroValue4
  t5 := Tryd.underlying5
  a5 := Tryd.isAgg5
  z5 := Tryd.sizeOf5
  v5 := Tryd.zeroValue5
  t9 := Tryd.underlying9
  a9 := Tryd.isAgg9
  z9 := Tryd.sizeOf9
  v9 := Tryd.zeroValue9
  t22 := Tryd.underlying39
  a22 := Tryd.isAgg39
  z22 := Tryd.sizeOf39
  v22 := Tryd.zeroValue39
  t25 := Tryd.underlying83
  a25 := Tryd.isAgg83
  z25 := Tryd.sizeOf83
  v25 := Tryd.zeroValue83
  t39 := Tryd.underlying104
  a39 := Tryd.isAgg104
  z39 := Tryd.sizeOf104
  v39 := Tryd.zeroValue104
  t45 := Tryd.underlying109
  a45 := Tryd.isAgg109
  z45 := Tryd.sizeOf109
  v45 := Tryd.zeroValue109
  t46 := Tryd.underlying110
  a46 := Tryd.isAgg110
  z46 := Tryd.sizeOf110
  v46 := Tryd.zeroValue110
  t50 := Tryd.underlying114
  a50 := Tryd.isAgg114
  z50 := Tryd.sizeOf114
  v50 := Tryd.zeroValue114
  t53 := Tryd.underlying117
  a53 := Tryd.isAgg117
  z53 := Tryd.sizeOf117
  v53 := Tryd.zeroValue117
  t55 := Tryd.underlying27
  a55 := Tryd.isAgg27
  z55 := Tryd.sizeOf27
  v55 := Tryd.zeroValue27
  t66 := Tryd.underlying119
  a66 := Tryd.isAgg119
  z66 := Tryd.sizeOf119
  v66 := Tryd.zeroValue119
  t70 := Tryd.underlying122
  a70 := Tryd.isAgg122
  z70 := Tryd.sizeOf122
  v70 := Tryd.zeroValue122
  t76 := Tryd.underlying124
  a76 := Tryd.isAgg124
  z76 := Tryd.sizeOf124
  v76 := Tryd.zeroValue124
  t77 := Tryd.underlying125
  a77 := Tryd.isAgg125
  z77 := Tryd.sizeOf125
  v77 := Tryd.zeroValue125 }

namespace Lo
open Lv (W64 slotOf slotOf_lt fresh ret_int slot_any ordI orI cmp3 cmpu_any or_new)
open Ln (lvCells LV upd only_set only_refl only_drew sort_small)
def cfI (x y : Nat × Nat) : Int := ordI x.1 x.2 y.1 y.2
theorem icompare_grow (i a j b : Nat) (w : World) : Calls Tryd.prog 45 #[.agg #[.int .u64 i, .int .u64 a], .agg #[.int .u64 j, .int .u64 b]] w fun e w' => e = .returned (.int .i64 (ordI i a j b)) ∧ ∃ q os, w' = grow (w.drewN q) os := by
  go_enter Tryd.func45, Tryd.ntmps45
  go_wp2
  go_region_held3 (fun w' => w'.cell? ⟨w.heap.size, 0, none⟩ = some (.int .u64 i) ∧ w'.cell? ⟨w.heap.size, 1, none⟩ = some (.int .u64 a) ∧ w'.cell? ⟨w.heap.size + 1, 0, none⟩ = some (.int .u64 j) ∧ w'.cell? ⟨w.heap.size + 1, 1, none⟩ = some (.int .u64 b)) (simp [go_sem, World.cell?_alloc_past])
    (first
      | (go_at_call 62; refine (cmpu_any _ _ _).mono ?_; rintro e w' ⟨rfl, rfl⟩)
      | (go_at_call 61; refine (or_new (cmp3 a b) (cmp3 i j) _ _ (by simp)).mono ?_; rintro e w' ⟨rfl, rfl⟩))
  go_wp2
  go_ret
  refine ⟨ret_int ?_, 1, #[.cells #[.int .u64 i, .int .u64 a] 34, .cells #[.int .u64 j, .int .u64 b] 34, .cells #[.int .i64 (cmp3 a b), .int .i64 (cmp3 i j)] 3], ?_⟩
  · unfold orI ordI cmp3
    by_cases h : a = b
    · subst h; simp
    · rw [if_neg h, if_neg]; split <;> (try split) <;> omega
  · rw [alloc_eq_grow, alloc_eq_grow, alloc_eq_grow, grow_grow, grow_grow]
    rfl
theorem ord_lt (x y : Nat × Nat) : ltOf cfI x y = decide (x.2 < y.2 ∨ (x.2 = y.2 ∧ x.1 < y.1)) := by
  unfold ltOf cfI ordI cmp3
  by_cases h : x.2 = y.2
  · rw [if_pos h]
    by_cases h1 : x.1 < y.1
    · simp [h1, h]
    · by_cases h2 : y.1 < x.1 <;> simp [h1, h2, h]
  · rw [if_neg h]
    by_cases h1 : x.2 < y.2
    · simp [h1]
    · by_cases h2 : y.2 < x.2
      · simp [h1, h2, h]
      · omega
theorem swoI : SWO (ltOf cfI) := {
  irrefl x := by rw [ord_lt]; simp
  trans x y z h1 h2 := by rw [ord_lt] at *; simp only [decide_eq_true_eq] at *; omega
  ntrans x y z h1 h2 := by rw [ord_lt] at *; simp only [decide_eq_false_iff_not] at *; omega }
theorem totI (x y : Nat × Nat) (h1 : ltOf cfI x y = false) (h2 : ltOf cfI y x = false) : x = y := by
  rw [ord_lt] at h1 h2
  simp only [decide_eq_false_iff_not] at h1 h2
  exact Prod.ext (by omega) (by omega)
/-- The items in order. -/
def sortI (l : List (Nat × Nat)) : List (Nat × Nat) := l.mergeSort fun x y => !(ltOf cfI) y x
theorem sortI_len (l : List (Nat × Nat)) : (sortI l).length = l.length := List.length_mergeSort _
theorem itc_get (x : Nat × Nat) : (itc x)[0]! = .int .u64 (x.1 : Nat) ∧ (itc x)[1]! = .int .u64 (x.2 : Nat) := ⟨rfl, rfl⟩
theorem holds_of {w : World} {g cap : Nat} {base : Nat} {l : List (Nat × Nat)} (row : IRow 34 w base (.slice (some ⟨g, 0, none⟩) l.length cap) l) : HoldsK itc 2 w g 0 l.toArray := by
  obtain ⟨A, cap', e1, -, hc⟩ := row.opened
  have e2 := (Value.slice.inj e1).1
  subst e2
  have hfz : ∀ o, w.frozen? ⟨g, o, none⟩ = false := by
    intro o
    rcases row.2 with ⟨h1, -⟩ | ⟨g', cp, cur, q1, q2, q3, q4⟩
    · cases h1
    · have e3 := (Value.slice.inj q1).1
      cases e3
      simp [World.frozen?, q3]
  intro j hj
  rw [size_flatK] at hj
  rw [get_flatK _ _ _ _ hj, Nat.zero_add]
  have hj' : j / 2 < l.length := by simp at hj; omega
  obtain ⟨g', e4, -, -, c1, c2⟩ := hc (j / 2) hj'
  cases e4
  have hx : l.toArray[j / 2]! = l[j / 2] := by simp [hj']
  rw [hx]
  refine ⟨?_, hfz j⟩
  show w.cell? ⟨g, j, none⟩ = some ((itc l[j / 2])[j % 2]!)
  rcases (by omega : j % 2 = 0 ∨ j % 2 = 1) with h | h
  · rw [h, (itc_get _).1, ← c1]; congr 2; omega
  · rw [h, (itc_get _).2, ← c2]; congr 2; omega
theorem lies_of {w : World} {g cap : Nat} {l : List (Nat × Nat)} (hg : g < w.heap.size) (hc : l.length ≤ cap) (h : HoldsK itc 2 w g 0 l.toArray) : Lies w (.slice (some ⟨g, 0, none⟩) l.length cap) l := by
  refine ⟨_, cap, rfl, hc, fun j hj => ⟨g, rfl, hg, ?_, ?_⟩⟩
  · have h1 := (h (j * 2) (by rw [size_flatK]; simp; omega)).1
    rw [get_flatK _ _ _ _ (by simp; omega), Nat.zero_add, show j * 2 / 2 = j by omega, show j * 2 % 2 = 0 by omega] at h1
    have hx : l.toArray[j]! = l[j] := by simp [hj]
    rw [hx, (itc_get _).1] at h1
    exact h1
  · have h1 := (h (j * 2 + 1) (by rw [size_flatK]; simp; omega)).1
    rw [get_flatK _ _ _ _ (by simp; omega), Nat.zero_add, show (j * 2 + 1) / 2 = j by omega, show (j * 2 + 1) % 2 = 1 by omega] at h1
    have hx : l.toArray[j]! = l[j] := by simp [hj]
    rw [hx, (itc_get _).2] at h1
    exact h1
theorem kb_sort (w : World) (g n : Nat) (d : Array (Nat × Nat)) (os : Array Obj) (hg : g < w.heap.size) : KB w (sortWorldK itc 2 w g 0 n d os) (fun j => j = g) := by
  refine ⟨rfl, rfl, rfl, size_sortWorldK_c itc 2 w g 0 n d os, fun j hj hn => ?_⟩
  unfold sortWorldK putRowK putRow mapBlock grow Sort.ahead
  simp only
  rw [Array.getElem?_append_left (by simpa using hj)]
  simp [Array.getElem?_modify, Ne.symm hn]
theorem sort_any (l : List (Nat × Nat)) (base : Nat) (v : Value) (w : World) (hl : l.length ≤ 1000) (row : IRow 34 w base v l) :
    Calls Tryd.prog 44 #[v, .func (.func 45) #[] #[]] w fun e w' => (∃ r, e = .returned r) ∧ Lies w' v (sortI l) ∧ KB w w' (fun g => v.ownBlock = some g) := by
  by_cases h1 : l.length ≤ 1
  · have hs : sortI l = l := by
      match l, h1 with
      | [], _ => exact List.mergeSort_nil
      | [x], _ => exact List.mergeSort_singleton x
    obtain ⟨A, cap, rfl, hc⟩ := row.opened
    rw [hs]
    exact (sort_small A l.length cap h1 w).mono fun e w' ⟨h, hw⟩ => by subst hw; exact ⟨h, row.lies, ⟨rfl, rfl, rfl, Nat.le_refl _, fun _ _ _ => rfl⟩⟩
  · rcases row.2 with ⟨h2, h3⟩ | ⟨g, cap, cur, h2, q2, q3, q4⟩
    · omega
    · subst h2
      have hg := (Array.getElem?_eq_some_iff.1 q3).1
      have eg : ∀ args w, (callFunc 45 args).run Tryd.prog w = .ok (.enter 45 args) w := enters_of Tryd.func45 (by kernel_rfl) rfl
      have hcmp : CmpLays Tryd.prog 45 #[] itc 2 cfI g 0 l.toArray.size w := fun _ _ _ _ x y => icompare_grow x.1 x.2 y.1 y.2 _
      have hH := holds_of row
      have hcon := AnyQ.slices_SortFunc_total Tryd.laysSort 2 Tryd.isAgg34 Tryd.sizeOf34 itc (fun _ => rfl) (fun x v hv => by simp [itc] at hv; rcases hv with rfl | rfl <;> rfl) cfI swoI 45 #[] g 0 cap l.toArray w eg hcmp hH hg (by simp; omega) totI
      refine hcon.mono fun e w' ⟨he, n, os, hw⟩ => ?_
      subst hw
      refine ⟨⟨_, he⟩, ?_, ?_⟩
      · have hH2 := holdsK_sortWorldK_c itc 2 w g 0 l.toArray (sortI l).toArray n os hH hg (by simp [sortI_len])
        have h3 := lies_of (cap := cap) (Nat.lt_of_lt_of_le hg (size_sortWorldK_c itc 2 w g 0 n (sortI l).toArray os)) (by rw [sortI_len]; exact q4.1) hH2
        rw [sortI_len] at h3
        exact h3
      · have k := kb_sort w g n (sortI l).toArray os hg
        exact ⟨k.os, k.tape, k.output, k.size, fun j hj hn => k.block j hj (fun e => hn (by rw [e]; rfl))⟩
end Lo
end Go.Proofs.YtkjlfoihojfnbaaDoor
