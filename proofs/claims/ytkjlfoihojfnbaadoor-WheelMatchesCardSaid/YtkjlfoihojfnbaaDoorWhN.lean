/- The nil wheel; the example of layer 16. -/
import Derived.Test.YtkjlfoihojfnbaaDoorWhM
namespace Go.Proofs.YtkjlfoihojfnbaaDoor
open Go.RowKit
set_option linter.unusedVariables false
set_option linter.unusedSimpArgs false
namespace Wh
open Lo (IRow KB St Own Lies below_drew Deb sortI bef bef_iff sortI_eq)
variable {base b now t : Nat} {w w' w1 : World} {T : List (Nat × Nat)} {S S' : Nat → Prop}
set_option maxRecDepth 100000 in
theorem nadv (at' : Nat) (w : World) : Calls Tryd.prog 28 #[.pointer none, .int .u64 (at' : Nat)] w fun e w' => e = .returned (.tuple #[.slice none 0 0, .int .i64 1]) ∧ w = w' := by
  go_enter Tryd.func28, Tryd.ntmps28
  go_wp2_with fail
  refine wp_scope_straight ?_
  go_wp2_with fail
  rw [Exit.noGoto_ret]
  go_ret2
  exact ⟨rfl, rfl⟩
set_option maxRecDepth 100000 in
theorem ncount (w : World) : Calls Tryd.prog 30 #[.pointer none] w fun e w' => e = .returned (.int .i64 0) ∧ w = w' := by
  go_enter Tryd.func30, Tryd.ntmps30
  go_wp2_with fail
  go_ret
  exact ⟨rfl, rfl⟩
set_option maxRecDepth 100000 in
theorem nnow (w : World) : Calls Tryd.prog 32 #[.pointer none] w fun e w' => e = .returned (.int .u64 0) ∧ w = w' := by
  go_enter Tryd.func32, Tryd.ntmps32
  go_wp2_with fail
  go_ret
  exact ⟨rfl, rfl⟩
set_option maxRecDepth 100000 in
theorem nhas (id : Nat) (w : World) : Calls Tryd.prog 35 #[.pointer none, .int .u64 (id : Nat)] w fun e w' => e = .returned (.bool false) ∧ w = w' := by
  go_enter Tryd.func35, Tryd.ntmps35
  go_wp2_with fail
  go_ret
  exact ⟨rfl, rfl⟩
set_option maxRecDepth 100000 in
theorem nsched (id at' : Nat) (w : World) : Calls Tryd.prog 26 #[.pointer none, .int .u64 (id : Nat), .int .u64 (at' : Nat)] w fun e w' => e = .returned (.int .i64 1) ∧ w = w' := by
  go_enter Tryd.func26, Tryd.ntmps26
  go_wp2_with fail
  go_ret
  exact ⟨rfl, rfl⟩
set_option maxRecDepth 100000 in
theorem ncancel (id : Nat) (w : World) : Calls Tryd.prog 33 #[.pointer none, .int .u64 (id : Nat)] w fun e w' => e = .returned (.int .i64 1) ∧ w = w' := by
  go_enter Tryd.func33, Tryd.ntmps33
  go_wp2_with fail
  go_ret
  exact ⟨rfl, rfl⟩
set_option maxRecDepth 100000 in
theorem nnext (w : World) : Calls Tryd.prog 34 #[.pointer none] w fun e w' => e = .returned (.tuple #[.int .u64 0, .bool false]) ∧ w = w' := by
  have HC := Lib.hid ncount
  go_enter Tryd.func34, Tryd.ntmps34
  go_wp2_with fail
  refine (HC.out _).mono ?_
  rintro e w1 ⟨rfl, rfl⟩
  go_wp2_with fail
  go_ret2
  exact ⟨rfl, rfl⟩
theorem ins1 (x : Nat × Nat) : insT [] x = [x] := List.mergeSort_singleton x
theorem ins2 : insT [(1, 100)] (2, 50) = [(2, 50), (1, 100)] := sortI_eq (List.Perm.refl _) (by simp [bef_iff])
theorem grown_ge {n : Nat} (h : ∀ g, S g → n ≤ g) (hw : n ≤ w.heap.size) : ∀ g, grown S w g → n ≤ g := fun g e => e.elim (h g) (fun e => Nat.le_trans hw e)
theorem kb_ge {n : Nat} (kb : KB w w' S) (h : ∀ g, S g → n ≤ g) (hw : n ≤ w.heap.size) : Below n w w' := kb.below hw h
theorem deb_ge {n : Nat} (hd : Deb w) (hg : 0 < n) (hb : Below n w w') (hn : n ≤ w.heap.size) : Deb w' := by
  have hb' := hb.block 0 hg
  exact ⟨fun j hj => (World.cell?_of_block (a := ⟨0, j, none⟩) hb').trans (hd.1 j hj), Nat.lt_of_lt_of_le hd.2 hb.size⟩
set_option maxRecDepth 100000 in
set_option maxHeartbeats 4000000 in
theorem walive_any (w : World) (hd : Deb w) : Calls Tryd.prog 23 #[] w fun e w' => e = .returned (.bool true) ∧ Below w.heap.size w w' := by
  have HN := Lib.hid (wnew_any 0 0 (by omega) (by omega) w)
  obtain ⟨n, hn⟩ : ∃ n, n = w.heap.size := ⟨_, rfl⟩
  have HD := Lib.hid hd
  have hgn : 0 < n := by rw [hn]; exact hd.2
  rw [← hn] at HN ⊢
  have HNN := Lib.hid hn
  clear hd hn
  go_enter Tryd.func23, Tryd.ntmps23
  go_wp2_with fail
  refine HN.out.mono ?_
  rintro e w1 ⟨rfl, h1, hb1⟩
  have hz1 : n ≤ w1.heap.size := by rw [HNN.out]; exact hb1.size
  have HS1 := Lib.hid (sched_ok (1, 100) h1 (by omega) (by omega) rfl hz1 (by simp))
  have HB1 := Lib.hid hb1
  clear h1 hb1
  go_wp2_with fail
  refine HS1.out.mono ?_
  rintro e w2 ⟨rfl, h2, kb2⟩
  rw [ins1] at h2
  have hb2 := kb_ge kb2 (fun g e => e) hz1
  have hz2 : n ≤ w2.heap.size := Nat.le_trans hz1 hb2.size
  have HS2 := Lib.hid (sched_ok (2, 50) h2 (by omega) (by omega) (by decide) hz2 (by simp))
  have HB2 := Lib.hid (HB1.out.trans hb2)
  clear h2 kb2 hb2
  go_wp2_with fail
  refine HS2.out.mono ?_
  rintro e w3 ⟨rfl, h3, kb3⟩
  rw [ins2] at h3
  have hg3 := grown_ge (w := w1) (S := fun g => n ≤ g) (n := n) (fun g e => e) hz1
  have hb3 := kb_ge kb3 hg3 hz2
  have hz3 : n ≤ w3.heap.size := Nat.le_trans hz2 hb3.size
  have HB3 := Lib.hid (HB2.out.trans hb3)
  have HD3 := Lib.hid (deb_ge HD.out hgn HB3.out (by rw [HNN.out]; exact Nat.le_refl _))
  have HA := Lib.hid (adv_ok (t := 70) h3 (by omega) (by omega) HD3.out hgn hz3 (by simp))
  clear h3 kb3 hb3
  go_wp2_with fail
  refine HA.out.mono ?_
  rintro e w4 ⟨v, rfl, hli, -, h4, kb4⟩
  have hb4 := kb_ge kb4 (grown_ge hg3 hz2) hz3
  have HB4 := Lib.hid (HB3.out.trans hb4)
  have ed : dueT [(2, 50), (1, 100)] 70 = [(2, 50)] := by decide
  have er : restT [(2, 50), (1, 100)] 70 = [(1, 100)] := by decide
  rw [ed] at hli
  rw [er] at h4
  have HNX := Lib.hid (next_some h4 (by simp) (by simp))
  have HLI := Lib.hid hli
  clear hli h4 kb4 hb4 ed er
  go_wp2_with fail
  refine HNX.out.mono ?_
  rintro e w5 ⟨rfl, hb5⟩
  have HB5 := Lib.hid (HB4.out.trans (hb5.mono (by have := HB4.out.size; have := HNN.out; omega)))
  obtain ⟨A, cap, rfl, hcap, hc⟩ := HLI.out.later hb5
  obtain ⟨g, rfl, hg1, c0, c1⟩ := hc 0 (by simp)
  simp only [Nat.zero_mul, Nat.zero_add, List.getElem_cons_zero] at c0 c1
  have c0' : w5.cell? ⟨g, 0, none⟩ = some (.int .u64 2) := c0
  have c1' : w5.cell? ⟨g, 1, none⟩ = some (.int .u64 50) := c1
  clear hb5 hc c0 c1
  go_wp2_with fail
  go_ret
  exact ⟨rfl, HB5.out⟩
end Wh
end Go.Proofs.YtkjlfoihojfnbaaDoor
