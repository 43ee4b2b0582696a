/- The reference's builder: Arm, Close. -/
import Derived.Test.YtpnepnhajpmccaaCwL
import Derived.Deep.RegionWith
namespace Go.Proofs.Ytpnepnhajpmccaa
open Go.RowKit
set_option linter.unusedVariables false
namespace Cm
open Nm (bitsW ret_int ret_bool)
open Vt (VT Rep BoxAt below_drew Cloned put5 toList_inj rowCells)
open Ev (EV FieldsOk evCells vCells EBox ERep zeroT)

theorem two (w : World) (Z1 Z2 : Obj) : ((w.alloc Z1).alloc Z2).heap[w.heap.size]? = some Z1 ∧ ((w.alloc Z1).alloc Z2).heap[w.heap.size + 1]? = some Z2 ∧ Below w.heap.size w ((w.alloc Z1).alloc Z2) ∧ ((w.alloc Z1).alloc Z2).heap.size = w.heap.size + 1 + 1 := by
  have n1 := heap_alloc_new w Z1
  have n2 := heap_alloc_new (w.alloc Z1) Z2
  simp only [World.size_alloc] at n2
  refine ⟨?_, n2, ((Below.refl w.heap.size w).alloc (Nat.le_refl _) Z1).alloc (by simp) Z2, by simp⟩
  rw [heap_alloc_old _ _ (by simp only [World.size_alloc]; omega), n1]

set_option maxRecDepth 100000 in
set_option maxHeartbeats 1000000 in
theorem rarm_bad (base : Nat) (A : Option Addr) (cap : Nat) (es : List EV) (next at' n : Nat) (w : World) (h : MAt w base A cap es) (hn : es.length ≤ 1000000) (hbw : base ≤ w.heap.size) (hbad : closedOf es ≠ 0) :
    Calls Try.prog 28 #[.agg #[.int .u64 next, .int .u64 at', .slice A es.length cap], .int .u64 n] w fun r w' =>
      r = .returned (.tuple #[.agg #[.int .u64 next, .int .u64 at', .slice A es.length cap], .int .u64 0]) ∧ Below w.heap.size w w' := by
  have hE := h.read hbw
  obtain ⟨W0, hW0⟩ : ∃ W0, W0 = (w.alloc (.cells #[.int .u64 next, .int .u64 at', .slice A es.length cap] 30)).alloc (.cells #[.int .u64 0, .int .u64 0, .slice none 0 0] 30) := ⟨_, rfl⟩
  obtain ⟨g1, g3, gb, gz⟩ := two w (.cells #[.int .u64 next, .int .u64 at', .slice A es.length cap] 30) (.cells #[.int .u64 0, .int .u64 0, .slice none 0 0] 30)
  rw [← hW0] at g1 g3 gb gz
  have HG : Hid (∀ W, Below W0.heap.size W0 W → W.heap[w.heap.size]? = some (.cells #[.int .u64 next, .int .u64 at', .slice A es.length cap] 30 (0, 0)) ∧ W.heap[w.heap.size + 1]? = some (.cells #[.int .u64 0, .int .u64 0, .slice none 0 0] 30 (0, 0)) ∧ Below w.heap.size w W) :=
    Lib.hid fun W hW => ⟨(hW.block _ (by omega)).trans g1, (hW.block _ (by omega)).trans g3, gb.trans (hW.mono (by omega))⟩
  have HC : Hid (Calls Try.prog 14 #[.agg #[.int .u64 next, .int .u64 at', .slice A es.length cap]] W0 fun r w' => r = .returned (.int .i64 (closedOf es)) ∧ Below W0.heap.size W0 w') := Lib.hid (rclosed_any es A cap next at' W0 (hE.later gb) hn)
  clear h hE g1 g3 gb
  replace hW0 := Lib.hid hW0
  replace gz := Lib.hid gz
  obtain ⟨h1, h3, -⟩ := HG.out W0 (Below.refl _ _)
  obtain ⟨a0, a1, a2, -, -, -⟩ := cells3 h1
  clear h1 h3
  go_enter Try.func28, Try.ntmps28
  go_upto_region 1 with fail
  rw [← hW0.out]
  generalize closedOf es = q at *
  have hqb : (q != 0) = true := by simpa using hbad
  go_wp2_with fail
  refine HC.out.mono ?_
  rintro x W1 ⟨rfl, hb1⟩
  obtain ⟨h1, h3, hbb⟩ := HG.out W1 hb1
  obtain ⟨a0', a1', a2', -, -, -⟩ := cells3 h1
  obtain ⟨r0, r1, r2, f0, f1, f2⟩ := cells3 h3
  have HBB := Lib.hid hbb
  clear hb1 hbb a0 a1 a2 h1 h3
  go_wp2_with fail
  refine bodyPost_ret (v := .tuple #[.agg #[.int .u64 next, .int .u64 at', .slice A es.length cap], .int .u64 0]) (by simp [results, Try.results28, go_sem, r0, r1, r2]) rfl ⟨rfl, ?_⟩
  have := HBB.out
  repeat (first | (with_reducible exact this) | refine Below.setCell ?_ (by simp only []; omega) _)

set_option maxRecDepth 100000 in
set_option maxHeartbeats 1000000 in
theorem rarm_good (base : Nat) (A : Option Addr) (cap : Nat) (es : List EV) (next at' n : Nat) (hnx : next + 1 < 18446744073709551616) (ha : at' < 18446744073709551616) (hn0 : n < 18446744073709551616) (w : World) (h : MAt w base A cap es) (hn : es.length ≤ 1000000) (hbw : base ≤ w.heap.size) (hq : closedOf es = 0) :
    Calls Try.prog 28 #[.agg #[.int .u64 next, .int .u64 at', .slice A es.length cap], .int .u64 n] w fun r w' =>
      ∃ b cap', r = .returned (.tuple #[.agg #[.int .u64 (next + 1 : Nat), .int .u64 at', .slice (some ⟨b, 0, none⟩) (es.length + 1) cap'], .int .u64 next]) ∧ Below w.heap.size w w' ∧ w.heap.size ≤ b ∧ MAt w' base (some ⟨b, 0, none⟩) cap' (es ++ [withId (armE (Nm.addW at' n)) next]) := by
  have hE := h.read hbw
  obtain ⟨W0, hW0⟩ : ∃ W0, W0 = (w.alloc (.cells #[.int .u64 next, .int .u64 at', .slice A es.length cap] 30)).alloc (.cells #[.int .u64 0, .int .u64 0, .slice none 0 0] 30) := ⟨_, rfl⟩
  obtain ⟨g1, g3, gb, gz⟩ := two w (.cells #[.int .u64 next, .int .u64 at', .slice A es.length cap] 30) (.cells #[.int .u64 0, .int .u64 0, .slice none 0 0] 30)
  rw [← hW0] at g1 g3 gb gz
  have HG : Hid (∀ W, Below W0.heap.size W0 W → W.heap[w.heap.size]? = some (.cells #[.int .u64 next, .int .u64 at', .slice A es.length cap] 30 (0, 0)) ∧ W.heap[w.heap.size + 1]? = some (.cells #[.int .u64 0, .int .u64 0, .slice none 0 0] 30 (0, 0)) ∧ Below w.heap.size w W) :=
    Lib.hid fun W hW => ⟨(hW.block _ (by omega)).trans g1, (hW.block _ (by omega)).trans g3, gb.trans (hW.mono (by omega))⟩
  have HC : Hid (Calls Try.prog 14 #[.agg #[.int .u64 next, .int .u64 at', .slice A es.length cap]] W0 fun r w' => r = .returned (.int .i64 0) ∧ Below W0.heap.size W0 w') := Lib.hid (by rw [← hq]; exact rclosed_any es A cap next at' W0 (hE.later gb) hn)
  have hlt : Nm.addW at' n < 18446744073709551616 := by unfold Nm.addW; split <;> omega
  have HAd := Lib.hid fun W => Nm.radd_any at' n ha hn0 W
  have HA : Hid (∀ W, Below W0.heap.size W0 W → Calls Try.prog 47 #[.agg #[.int .u64 next, .int .u64 at', .slice A es.length cap], .agg #[.int .i64 8, .int .u64 next, .int .i64 0, .int .u64 (Nm.addW at' n), .string ⟨#[]⟩, .string ⟨#[]⟩, .int .i64 0, .int .i64 0, .float .f64 0, .string ⟨#[]⟩, .slice none 0 0]] W fun r w' =>
      ∃ b cap', r = .returned (.agg #[.int .u64 next, .int .u64 at', .slice (some ⟨b, 0, none⟩) (es.length + 1) cap']) ∧ Below W0.heap.size W0 w' ∧ W0.heap.size ≤ b ∧ MAt w' base (some ⟨b, 0, none⟩) cap' (es ++ [withId (armE (Nm.addW at' n)) next])) := Lib.hid fun W hW => by
    have hbs := hW.size
    have hwW := gb.trans (hW.mono (by omega))
    have hfo := arm_ok _ hlt
    refine (radd_any base A cap es next at' (withId (armE (Nm.addW at' n)) next) 0 0 0 ⟨#[]⟩ none 0 0 W (h.later hbw hwW) hn (by omega) ⟨hfo.k0, hfo.k1, by show next < _; omega, hfo.n0, hfo.n1, hfo.a1, hfo.s1, hfo.t1⟩ ((zero_rep W).more (Nat.le_refl _) (Nat.zero_le _))).mono ?_
    rintro r w' ⟨b, cap', rfl, h1, h2, h3⟩
    exact ⟨b, cap', rfl, hW.trans (h1.mono hbs), by omega, h3⟩
  clear h hE g1 g3 gb hlt
  have hz0 : w.heap.size + 1 + 1 = W0.heap.size := gz.symm
  replace hW0 := Lib.hid hW0
  replace gz := Lib.hid gz
  obtain ⟨h1, h3, -⟩ := HG.out W0 (Below.refl _ _)
  obtain ⟨a0, a1, a2, -, -, -⟩ := cells3 h1
  clear h1 h3
  have hwr : IntKind.u64.wrap ((next : Int) + 1) = ((next + 1 : Nat) : Int) := by rw [IntKind.wrap_u64]; omega
  replace hz0 := Lib.hid hz0
  go_enter Try.func28, Try.ntmps28
  go_upto_region 1 with fail
  rw [← hW0.out]
  go_wp2_with fail
  refine HC.out.mono ?_
  rintro x W1 ⟨rfl, hb1⟩
  obtain ⟨h1, h3, -⟩ := HG.out W1 hb1
  obtain ⟨a0', a1', a2', -, -, -⟩ := cells3 h1
  have HBE := Lib.hid hb1
  have HA1 := Lib.hid (HA.out W1.drew (below_drew hb1))
  clear hb1 a0 a1 a2 h1 h3 HA
  go_wp2_with fail
  go_region_with (first
    | (go_at_call 48; refine (HAd.out _).mono ?_; rintro x W2 ⟨rfl, rfl⟩)
    | (go_at_call 47; refine HA1.out.mono ?_; rintro x W3 ⟨b, cap', rfl, hb3, hbg, hm⟩; obtain ⟨h1, h3, hbb⟩ := HG.out W3 hb3; obtain ⟨b0', b1', b2', f0, f1, f2⟩ := cells3 h1; obtain ⟨r0, r1, r2, f3, f4, f5⟩ := cells3 h3; have HBB := Lib.hid hbb; have HM := Lib.hid hm; clear h1 h3 hbb hm hb3))
  all_goals go_wp2_with fail
  all_goals refine bodyPost_ret (v := .tuple #[.agg #[.int .u64 (next + 1 : Nat), .int .u64 at', .slice (some ⟨b, 0, none⟩) (es.length + 1) cap'], .int .u64 next]) (by simp [results, Try.results28, go_sem, r0, r1, r2]) rfl ⟨b, cap', rfl, ?_, by have := hz0.out; omega, ?_⟩
  all_goals have HBO := HBB.out
  all_goals have HMO := HM.out
  all_goals have hz := hz0.out
  all_goals clear HBE HG HC HA1 HAd HBB HM
  all_goals repeat (first | (with_reducible exact HBO) | (with_reducible exact HMO) | refine Below.setCell ?_ (by simp only []; omega) _ | refine MAt.set ?_ (by simp only []; omega) (by intro r hr; cases hr; simp only []; omega) _)
end Cm
end Go.Proofs.Ytpnepnhajpmccaa
