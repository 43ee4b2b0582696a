/- Sorting by level.Compare; the least of those that are far. -/
import Derived.Test.YtkjlfoihojfnbaaDoorWhE
namespace Go.Proofs.YtkjlfoihojfnbaaDoor
open Go.RowKit Go.Shelf Go.Lib Go.Sort
set_option linter.unusedVariables false
set_option linter.unusedSimpArgs false
namespace Wh
open Lv (ordI orI cmp3 ret_int)
open Lo (IRow KB Lies itc cfI icompare_grow swoI totI sortI sortI_len holds_of lies_of kb_sort)
theorem drewN_grow (w : World) (os : Array Obj) (n : Nat) : (grow w os).drewN n = grow (w.drewN n) os := by
  induction n with
  | zero => rfl
  | succ n ih => rfl
theorem compare_grow (i a j b : Nat) (w : World) : Calls Tryd.prog 51 #[.agg #[.int .u64 i, .int .u64 a], .agg #[.int .u64 j, .int .u64 b]] w fun e w' => e = .returned (.int .i64 (ordI i a j b)) ∧ ∃ q os, w' = grow (w.drewN q) os := by
  have HC := Lib.hid (icompare_grow i a j b ((w.alloc (.cells #[.int .u64 i, .int .u64 a] 34)).alloc (.cells #[.int .u64 j, .int .u64 b] 34)))
  go_enter Tryd.func51, Tryd.ntmps51
  go_wp2_with fail
  refine HC.out.mono ?_
  rintro e w1 ⟨rfl, q, os, rfl⟩
  go_wp2_with fail
  go_ret
  refine ⟨rfl, q, #[.cells #[.int .u64 i, .int .u64 a] 34, .cells #[.int .u64 j, .int .u64 b] 34] ++ os, ?_⟩
  rw [alloc_eq_grow, alloc_eq_grow, grow_grow, drewN_grow, grow_grow]
  rfl
theorem ins2_small (A : Option Addr) (n cap : Nat) (h : n ≤ 1) (w : World) : Calls Tryd.prog 65 #[.slice A n cap, .int .i64 0, .int .i64 n, (.func (.func 51) #[] #[])] w fun e w' => (∃ v, e = .returned v) ∧ w' = w := by
  have h0 : (n : Int) ≤ 1 := by omega
  go_enter Tryd.func65, Tryd.ntmps65
  go_wp2_with fail
  go_loop [8] (fun i => i = .int .i64 1) (fun _ => 0)
  case atStart => rfl
  case round =>
    obtain rfl := hrel
    go_wp2_with fail
    refine bodyPost_end (results_none rfl _ _ _) rfl ?_
    exact ⟨⟨_, rfl⟩, rfl⟩
theorem pdq2_small (A : Option Addr) (n cap : Nat) (l : Int) (h : n ≤ 1) (w : World) : Calls Tryd.prog 59 #[.slice A n cap, .int .i64 0, .int .i64 n, .int .i64 l, (.func (.func 51) #[] #[])] w fun e w' => (∃ v, e = .returned v) ∧ w' = w := by
  have HI := Lib.hid fun w => ins2_small A n cap h w
  have h0 : (n : Int) ≤ 12 := by omega
  have h1 : (0 : Int) ≤ n := by omega
  go_enter Tryd.func59, Tryd.ntmps59
  go_wp2_with fail
  go_loop [1, 2] (fun x y => x = .int .i64 0 ∧ y = .int .i64 n) (fun _ _ => 0)
  case atStart => exact ⟨rfl, rfl⟩
  case round =>
    obtain ⟨rfl, rfl⟩ := hrel
    go_wp2_with fail
    refine (HI.out _).mono ?_
    rintro e w1 ⟨⟨v, rfl⟩, rfl⟩
    go_wp2_with fail
    refine bodyPost_ret (results_none rfl _ _ _) rfl ?_
    exact ⟨⟨_, rfl⟩, rfl⟩
theorem sort2_small (A : Option Addr) (n cap : Nat) (h : n ≤ 1) (w : World) : Calls Tryd.prog 44 #[.slice A n cap, (.func (.func 51) #[] #[])] w fun e w' => (∃ v, e = .returned v) ∧ w' = w := by
  have HP := Lib.hid fun l w => pdq2_small A n cap l h w
  have HL := Lib.hid fun w => Ln.len_small n h w
  have h0 : IntKind.u64.wrap (n : Int) = n := by rcases (by omega : n = 0 ∨ n = 1) with rfl | rfl <;> rfl
  go_enter Tryd.func44, Tryd.ntmps44
  go_wp2_with fail
  refine (HL.out _).mono ?_
  rintro e w1 ⟨⟨v, rfl⟩, rfl⟩
  go_wp2_with fail
  refine (HP.out _ _).mono ?_
  rintro e w1 ⟨⟨v, rfl⟩, rfl⟩
  go_wp2_with fail
  refine bodyPost_end (results_none rfl _ _ _) rfl ?_
  exact ⟨⟨_, rfl⟩, rfl⟩
theorem sort2_any (l : List (Nat × Nat)) (base : Nat) (v : Value) (w : World) (hl : l.length ≤ 1000) (row : IRow 34 w base v l) :
    Calls Tryd.prog 44 #[v, .func (.func 51) #[] #[]] w fun e w' => (∃ r, e = .returned r) ∧ Lies w' v (sortI l) ∧ KB w w' (fun g => v.ownBlock = some g) := by
  by_cases h1 : l.length ≤ 1
  · have hs : sortI l = l := by
      match l, h1 with
      | [], _ => exact List.mergeSort_nil
      | [x], _ => exact List.mergeSort_singleton x
    obtain ⟨A, cap, rfl, hc⟩ := row.opened
    rw [hs]
    exact (sort2_small A l.length cap h1 w).mono fun e w' ⟨h, hw⟩ => by subst hw; exact ⟨h, row.lies, ⟨rfl, rfl, rfl, Nat.le_refl _, fun _ _ _ => rfl⟩⟩
  · rcases row.2 with ⟨h2, h3⟩ | ⟨g, cap, cur, h2, q2, q3, q4⟩
    · omega
    · subst h2
      have hg := (Array.getElem?_eq_some_iff.1 q3).1
      have eg : ∀ args w, (callFunc 51 args).run Tryd.prog w = .ok (.enter 51 args) w := enters_of Tryd.func51 (by kernel_rfl) rfl
      have hcmp : CmpLays Tryd.prog 51 #[] itc 2 cfI g 0 l.toArray.size w := fun _ _ _ _ x y => compare_grow x.1 x.2 y.1 y.2 _
      have hH := holds_of row
      have hcon := AnyQ.slices_SortFunc_total Tryd.laysSort 2 Tryd.isAgg34 Tryd.sizeOf34 itc (fun _ => rfl) (fun x v hv => by simp [itc] at hv; rcases hv with rfl | rfl <;> rfl) cfI swoI 51 #[] g 0 cap l.toArray w eg hcmp hH hg (by simp; omega) totI
      refine hcon.mono fun e w' ⟨he, n, os, hw⟩ => ?_
      subst hw
      refine ⟨⟨_, he⟩, ?_, ?_⟩
      · have hH2 := holdsK_sortWorldK_c itc 2 w g 0 l.toArray (sortI l).toArray n os hH hg (by simp [sortI_len])
        have h3 := lies_of (cap := cap) (Nat.lt_of_lt_of_le hg (size_sortWorldK_c itc 2 w g 0 n (sortI l).toArray os)) (by rw [sortI_len]; exact q4.1) hH2
        rw [sortI_len] at h3
        exact h3
      · have k := kb_sort w g n (sortI l).toArray os hg
        exact ⟨k.os, k.tape, k.output, k.size, fun j hj hn => k.block j hj (fun e => hn (by rw [e]; rfl))⟩
end Wh
end Go.Proofs.YtkjlfoihojfnbaaDoor
