/- strconv.FormatUint in base 10, strconv.Itoa: any number. -/
/- strconv.FormatUint in base 16: the number of zero bits of 16; 16 is a power of two. -/
import Derived.Test.YtjfhnkhabipbdaaGreatDoorRows
import Derived.Shelf.Strconv.Itoa3
import Derived.Lib.ItoaMem
import Derived.WalkKit
import Derived.RowKit3
import Derived.Outline
import Derived.Below
import Derived.Laws.Bits64b
namespace Go.Proofs.YtjfhnkhabipbdaaGreatDoor
open Go.RowKit Go.Shelf Go.Sort
set_option linter.unusedVariables false

def Tryz.laysFI_ren : Go.Shelf.Ren := ⟨fun | 246 => 38 | 283 => 53 | 284 => 54 | 285 => 55 | 286 => 56 | 129 => 76 | 317 => 75 | 318 => 77 | 319 => 78 | 320 => 79 | 337 => 89 | 338 => 90 | n => n, fun | 2 => 2 | 3 => 3 | 9 => 9 | 4 => 4 | 171 => 76 | 0 => 0 | 53 => 25 | 37 => 79 | 5 => 5 | 173 => 80 | 212 => 102 | 51 => 103 | 20 => 20 | 213 => 104 | 46 => 105 | 232 => 124 | 233 => 125 | n => n, fun | 17 => 0 | 18 => 2 | 19 => 3 | n => n⟩
theorem Tryz.laysFI : Go.Proofs.LaysM.n246 Tryz.prog Tryz.laysFI_ren := {
  mixed := by kernel_rfl
  f129 := Tryz.func76.trans (congrArg some (by kernel_rfl))
  f246 := Tryz.func38.trans (congrArg some (by kernel_rfl))
  f283 := Tryz.func53.trans (congrArg some (by kernel_rfl))
  f284 := Tryz.func54.trans (congrArg some (by kernel_rfl))
  f285 := Tryz.func55.trans (congrArg some (by kernel_rfl))
  f286 := Tryz.func56.trans (congrArg some (by kernel_rfl))
  f317 := Tryz.func75.trans (congrArg some (by kernel_rfl))
  f318 := Tryz.func77.trans (congrArg some (by kernel_rfl))
  f319 := Tryz.func78.trans (congrArg some (by kernel_rfl))
  f320 := Tryz.func79.trans (congrArg some (by kernel_rfl))
  f337 := Tryz.func89.trans (congrArg some (by kernel_rfl))
  f338 := Tryz.func90.trans (congrArg some (by kernel_rfl))
  t0 := Tryz.underlying0
  a0 := Tryz.isAgg0
  z0 := Tryz.sizeOf0
  v0 := Tryz.zeroValue0
  t2 := Tryz.underlying2
  a2 := Tryz.isAgg2
  z2 := Tryz.sizeOf2
  v2 := Tryz.zeroValue2
  t3 := Tryz.underlying3
  a3 := Tryz.isAgg3
  z3 := Tryz.sizeOf3
  v3 := Tryz.zeroValue3
  t4 := Tryz.underlying4
  a4 := Tryz.isAgg4
  z4 := Tryz.sizeOf4
  v4 := Tryz.zeroValue4
  t5 := Tryz.underlying5
  a5 := Tryz.isAgg5
  z5 := Tryz.sizeOf5
  v5 := Tryz.zeroValue5
  t9 := Tryz.underlying9
  a9 := Tryz.isAgg9
  z9 := Tryz.sizeOf9
  v9 := Tryz.zeroValue9
  t20 := Tryz.underlying20
  a20 := Tryz.isAgg20
  z20 := Tryz.sizeOf20
  v20 := Tryz.zeroValue20
  t37 := Tryz.underlying79
  a37 := Tryz.isAgg79
  z37 := Tryz.sizeOf79
  v37 := Tryz.zeroValue79
  t46 := Tryz.underlying105
  a46 := Tryz.isAgg105
  z46 := Tryz.sizeOf105
  v46 := Tryz.zeroValue105
  t51 := Tryz.underlying103
  a51 := Tryz.isAgg103
  z51 := Tryz.sizeOf103
  v51 := Tryz.zeroValue103
  t53 := Tryz.underlying25
  a53 := Tryz.isAgg25
  z53 := Tryz.sizeOf25
  v53 := Tryz.zeroValue25
  t171 := Tryz.underlying76
  a171 := Tryz.isAgg76
  z171 := Tryz.sizeOf76
  v171 := Tryz.zeroValue76
  t173 := Tryz.underlying80
  a173 := Tryz.isAgg80
  z173 := Tryz.sizeOf80
  v173 := Tryz.zeroValue80
  t212 := Tryz.underlying102
  a212 := Tryz.isAgg102
  z212 := Tryz.sizeOf102
  v212 := Tryz.zeroValue102
  t213 := Tryz.underlying104
  a213 := Tryz.isAgg104
  z213 := Tryz.sizeOf104
  t232 := Tryz.underlying124
  a232 := Tryz.isAgg124
  z232 := Tryz.sizeOf124
  v232 := Tryz.zeroValue124
  t233 := Tryz.underlying125
  a233 := Tryz.isAgg125
  z233 := Tryz.sizeOf125
  v233 := Tryz.zeroValue125
  g17 := by kernel_rfl
  g18 := by kernel_rfl
  g19 := by kernel_rfl
  i0 := by kernel_rfl
  i2 := by kernel_rfl
  i3 := by kernel_rfl
  i4 := by kernel_rfl
  i5 := by kernel_rfl
  i9 := by kernel_rfl
  i20 := by kernel_rfl
  i37 := by kernel_rfl
  i46 := by kernel_rfl
  i51 := by kernel_rfl
  i53 := by kernel_rfl
  i171 := by kernel_rfl
  i173 := by kernel_rfl
  i212 := by kernel_rfl
  i232 := by kernel_rfl
  i233 := by kernel_rfl
  m17 := by kernel_rfl
  m18 := by kernel_rfl
  m19 := by kernel_rfl }

namespace Fu
theorem zhold (w : World) (T : TypeId) (nd : Nat) (hs : nd ≤ 24) : Holds (fun (b : UInt8) => Value.int .u8 (b.toNat : Int)) (w.alloc (.cells Lib.zeros24 T)) w.heap.size 0 (Array.replicate nd (0 : UInt8)) := fun j hj => by
  have hj' : j < nd := by simpa using hj
  refine ⟨?_, World.frozen?_alloc_new _ _ _ _⟩
  rw [World.cell?_alloc_new, Lib.zeros24_at _ (by omega), getElem!_pos _ j hj]
  simp
theorem fin0 (w : World) (o : Obj) (dk : Array UInt8) (k : Nat) : ∃ os, (putRow (fun (b : UInt8) => Value.int .u8 (b.toNat : Int)) (w.alloc o) w.heap.size 0 dk).drewN k = grow (w.drewN k) os := by
  rw [alloc_eq_grow]
  obtain ⟨os', _, e⟩ := putRow_grow_new (fun (b : UInt8) => Value.int .u8 (b.toNat : Int)) w #[o] w.heap.size 0 dk (Nat.le_refl _)
  exact ⟨os', by rw [e]; rfl⟩
theorem grow_below (w : World) (k : Nat) (os : Array Obj) : Below w.heap.size w (grow (w.drewN k) os) := by
  have h : (w.drewN k).heap = w.heap := rfl
  refine ⟨rfl, rfl, rfl, ?_, fun j hj => ?_⟩
  · show w.heap.size ≤ (w.heap ++ os).size
    rw [Array.size_append]; omega
  · show (w.heap ++ os)[j]? = w.heap[j]?
    exact Array.getElem?_append_left hj

set_option maxHeartbeats 1000000 in
set_option maxRecDepth 100000 in
theorem ifmtu_any (u : Nat) (hu : u < 18446744073709551616) (w : World) (htab : Lib.TabIs Tryz.prog w "internal/strconv.uint64pow10" .u64 Lib.pow10Tab) :
    Calls Tryz.prog 62 #[.int .u64 u, .int .i64 10] w fun e w' => e = .returned (.string ⟨(Lib.decDigits u).toArray⟩) ∧ ∃ k os, w' = grow (w.drewN k) os := by
  have L := Tryz.laysFI
  by_cases hs : u < 100
  · have hi : (u : Int) < 100 := by omega
    have hw : IntKind.i64.wrap (u : Int) = u := by rw [IntKind.wrap_i64]; omega
    have HS := Lib.hid fun w => Any.internal_strconv_small { L with } u hs w
    go_enter Tryz.func62, Tryz.ntmps62
    go_wp2_with fail
    refine (HS.out _).mono ?_
    rintro e w' ⟨rfl, rfl⟩
    go_wp2_with fail
    go_ret
    exact ⟨rfl, 0, #[], by simp [World.drewN_zero]⟩
  · have hu1 : 1 ≤ u := by omega
    have hi : (100 : Int) ≤ u := by omega
    have hnd20 : Lib.nDigits u ≤ 20 := by have := Lib.numDigits_eq u hu1 hu; split at this <;> omega
    have hal : Tryz.prog.arrayLen 76 = 24 := by kernel_rfl
    have hsl1 : ∀ W, (Instr.sliceAt 76 (.pointer (some ⟨w.heap.size, 0, none⟩)) none (some (.int .i64 (Lib.nDigits u : Int))) none).run Tryz.prog W = .ok (.slice (some ⟨w.heap.size, 0, none⟩) (Lib.nDigits u) 24) W := fun W => by
      rw [run_sliceAt_array_h W 76 ⟨w.heap.size, 0, none⟩ (by kernel_rfl) .i64 (Lib.nDigits u : Int) (by omega) (by rw [hal]; omega)]
      go_simp
    have hH0 := zhold w 76 (Lib.nDigits u) (by omega)
    have hfmt := Any.internal_strconv_formatBase10 { L with } w.heap.size 0 24 u (Array.replicate (Lib.nDigits u) 0) (w.alloc (.cells Lib.zeros24 76)) hH0 (by rw [Array.size_replicate]; exact Lib.lt_pow_nDigits u) hu (by rw [Array.size_replicate]; omega)
    rw [Array.size_replicate] at hfmt
    have HH0 := Lib.hid hH0
    have HN := Lib.hid (Any.internal_strconv_numDigits { L with } u hu1 hu _ (Lib.tabIs_alloc htab (.cells Lib.zeros24 76)))
    have HF := Lib.hid hfmt
    clear hH0 hal hfmt
    go_enter Tryz.func62, Tryz.ntmps62
    go_wp2_with fail
    refine HN.out.mono ?_
    rintro e w' ⟨rfl, rfl⟩
    go_wp2_with fail
    refine HF.out.mono ?_
    rintro e w' ⟨rfl, k, v', dk, rfl, hF⟩
    have hcv : (convert 79 9 (.slice (some ⟨w.heap.size, 0, none⟩) (Lib.nDigits u) 24)).run Tryz.prog ((putRow (fun (b : UInt8) => Value.int .u8 (b.toNat : Int)) (w.alloc (.cells Lib.zeros24 76)) w.heap.size 0 dk).drewN k) = .ok (.string ⟨(Lib.decDigits u).toArray⟩) ((putRow (fun (b : UInt8) => Value.int .u8 (b.toNat : Int)) (w.alloc (.cells Lib.zeros24 76)) w.heap.size 0 dk).drewN k) := by
      have h := run_convert_bytes_back (P := Tryz.prog) ((putRow (fun (b : UInt8) => Value.int .u8 (b.toNat : Int)) (w.alloc (.cells Lib.zeros24 76)) w.heap.size 0 dk).drewN k) 79 9 5 ⟨w.heap.size, 0, none⟩ 24 (Lib.decDigits u) Tryz.underlying79 Tryz.underlying5 Tryz.underlying9 (fun j hj => by
        rw [Lib.row_is_numeral hF j hj, Lib.add_plain, World.cell?_drewN]
        exact cell?_putRow (fun (b : UInt8) => Value.int .u8 (b.toNat : Int)) _ w.heap.size 0 _ dk HH0.out (by rw [hF.size, Array.size_replicate]) j (by rw [hF.size]; rw [Lib.decDigits_length] at hj; exact hj))
      rw [Lib.decDigits_length] at h
      exact h
    go_wp2_with fail
    go_ret
    obtain ⟨os, eo⟩ := fin0 w (.cells Lib.zeros24 76) dk k
    exact ⟨rfl, k, os, eo⟩

/-- strconv.FormatUint at base 10. -/
theorem fmtu_any (u : Nat) (hu : u < 18446744073709551616) (w : World) (htab : Lib.TabIs Tryz.prog w "internal/strconv.uint64pow10" .u64 Lib.pow10Tab) :
    Calls Tryz.prog 41 #[.int .u64 u, .int .i64 10] w fun e w' => e = .returned (.string ⟨(Lib.decDigits u).toArray⟩) ∧ Below w.heap.size w w' := by
  have H := Lib.hid (ifmtu_any u hu w htab)
  go_enter Tryz.func41, Tryz.ntmps41
  go_wp2_with fail
  refine H.out.mono ?_
  rintro e w1 ⟨rfl, k, os, rfl⟩
  go_wp2_with fail
  go_ret
  exact ⟨rfl, grow_below _ _ _⟩
/-- A listed table stands in a later world. -/
theorem tab_later {w w' : World} {name : String} {k : IntKind} {zs : List Int} (h : Lib.TabIs Tryz.prog w name k zs) (hb : Below w.heap.size w w') : Lib.TabIs Tryz.prog w' name k zs := by
  unfold Lib.TabIs World.var? at *
  cases hg : Tryz.prog.globalNamed name with
  | none => simp [hg] at h
  | some g =>
    simp only [hg, Option.bind_some] at h ⊢
    have hlt : g < w.heap.size := by
      rcases Nat.lt_or_ge g w.heap.size with h' | h'
      · exact h'
      · rw [Array.getElem?_eq_none h'] at h; simp at h
    rw [hb.block g hlt]
    exact h
end Fu
end Go.Proofs.YtjfhnkhabipbdaaGreatDoor
namespace Go.Proofs.YtjfhnkhabipbdaaGreatDoor
open Go.RowKit Go.Shelf Go.Sort
set_option linter.unusedVariables false
namespace Fu
theorem pow16 (w : World) : Calls Tryz.prog 78 #[.int .i64 16] w fun e w' => e = .returned (.bool true) ∧ w' = w := by
  go_enter Tryz.func78, Tryz.ntmps78
  go_wp2_with fail
  go_ret
  exact ⟨by first | rfl | (simp; decide), rfl⟩
set_option maxRecDepth 100000 in
theorem tz16 (w : World) (hc : w.cell? ⟨3, 15, none⟩ = some (.int .u8 4)) : Calls Tryz.prog 90 #[.int .u64 16] w fun e w' => e = .returned (.int .i64 4) ∧ w' = w := by
  have h1 : bits BinOp.and IntKind.u64 16 (IntKind.u64.wrap (-16)) = 16 := by first | rfl | kernel_rfl | decide
  have h2 : IntKind.u64.wrap (16 * 285870213051353865) = 4573923408821661840 := by first | rfl | kernel_rfl | decide
  go_enter Tryz.func90, Tryz.ntmps90
  go_wp2_with fail
  go_ret
  exact ⟨rfl, rfl⟩
theorem tzu16 (w : World) (hc : w.cell? ⟨3, 15, none⟩ = some (.int .u8 4)) : Calls Tryz.prog 79 #[.int .u64 16] w fun e w' => e = .returned (.int .i64 4) ∧ w' = w := by
  have H := Lib.hid (tz16 w hc)
  go_enter Tryz.func79, Tryz.ntmps79
  go_wp2_with fail
  refine H.out.mono ?_
  rintro e w1 ⟨rfl, rfl⟩
  go_wp2_with fail
  go_ret
  exact ⟨rfl, rfl⟩
end Fu
end Go.Proofs.YtjfhnkhabipbdaaGreatDoor
