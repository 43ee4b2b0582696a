/- The reference's builder: Close. -/
import Derived.Test.YtpnepnhajpmccaaCwM
namespace Go.Proofs.Ytpnepnhajpmccaa
open Go.RowKit
set_option linter.unusedVariables false
namespace Cm
open Nm (bitsW ret_int ret_bool)
open Vt (VT Rep BoxAt below_drew Cloned put5 toList_inj rowCells)
open Ev (EV FieldsOk evCells vCells EBox ERep zeroT)

/-- An event that closes. -/
def closeE (k : Int) (t : VT) (tx : ByteArray) : EV := ⟨k, 0, 0, 0, ⟨#[]⟩, shortOf tx, t⟩
theorem closeE_compl (t : VT) : closeE 9 t ⟨#[]⟩ = complE t := by
  have h : shortOf ⟨#[]⟩ = ⟨#[]⟩ := if_pos (Nat.zero_le _)
  rw [closeE, h]
  rfl
theorem closeE_fail (s : ByteArray) : closeE 10 zeroT s = failE s := rfl
theorem closeE_panic (s : ByteArray) : closeE 11 zeroT s = panicE s := rfl
theorem close_ok (k : Int) (hk0 : -9223372036854775808 ≤ k) (hk1 : k ≤ 9223372036854775807) (t : VT) (s : ByteArray) (hs : s.size ≤ maxLen) : FieldsOk (closeE k t s) := ⟨hk0, hk1, by simp [closeE], by simp [closeE], by simp [closeE], by simp [closeE], Nat.zero_le _, shortOf_size s hs⟩

set_option maxRecDepth 100000 in
set_option maxHeartbeats 1000000 in
theorem rclose_bad (base : Nat) (A : Option Addr) (cap : Nat) (es : List EV) (next at' : Nat) (k : Int) (hk0 : -9223372036854775808 ≤ k) (hk1 : k ≤ 9223372036854775807) (t : VT) (tx : ByteArray) (vk vn : Int) (vf : Nat) (vs : ByteArray) (A' : Option Addr) (m c : Nat) (w : World) (h : MAt w base A cap es) (hn : es.length ≤ 1000000) (hbw : base ≤ w.heap.size)
    (hs : tx.size ≤ maxLen) (hv : Rep w 0 base t (vCells vk vn vf vs A' m c)) (hbad : ¬ (closedOf es = 0 ∧ t.valid 8 = true)) :
    Calls Try.prog 29 #[.agg #[.int .u64 next, .int .u64 at', .slice A es.length cap], .int .i64 k, vCells vk vn vf vs A' m c, .string tx] w fun r w' =>
      r = .returned (.tuple #[.agg #[.int .u64 next, .int .u64 at', .slice A es.length cap], .bool false]) ∧ Below w.heap.size w w' := by
  have hE := h.read hbw
  obtain ⟨W0, hW0⟩ : ∃ W0, W0 = ((w.alloc (.cells #[.int .u64 next, .int .u64 at', .slice A es.length cap] 30)).alloc (.cells #[.int .i64 vk, .int .i64 vn, .float .f64 vf, .string vs, .slice A' m c] 34)).alloc (.cells #[.int .u64 0, .int .u64 0, .slice none 0 0] 30) := ⟨_, rfl⟩
  obtain ⟨g1, g2, g3, gb, gz⟩ := three w (.cells #[.int .u64 next, .int .u64 at', .slice A es.length cap] 30) (.cells #[.int .i64 vk, .int .i64 vn, .float .f64 vf, .string vs, .slice A' m c] 34) (.cells #[.int .u64 0, .int .u64 0, .slice none 0 0] 30)
  rw [← hW0] at g1 g2 g3 gb gz
  have HG : Hid (∀ W, Below W0.heap.size W0 W → W.heap[w.heap.size]? = some (.cells #[.int .u64 next, .int .u64 at', .slice A es.length cap] 30 (0, 0)) ∧ BoxAt W (w.heap.size + 1) vk vn vf vs A' m c ∧ W.heap[w.heap.size + 1 + 1]? = some (.cells #[.int .u64 0, .int .u64 0, .slice none 0 0] 30 (0, 0)) ∧ Below w.heap.size w W) :=
    Lib.hid fun W hW => ⟨(hW.block _ (by omega)).trans g1, (hW.block _ (by omega)).trans g2, (hW.block _ (by omega)).trans g3, gb.trans (hW.mono (by omega))⟩
  have HC : Hid (Calls Try.prog 14 #[.agg #[.int .u64 next, .int .u64 at', .slice A es.length cap]] W0 fun r w' => r = .returned (.int .i64 (closedOf es)) ∧ Below W0.heap.size W0 w') := Lib.hid (rclosed_any es A cap next at' W0 (hE.later gb) hn)
  have HV : Hid (∀ W, Below W0.heap.size W0 W → Calls Try.prog 24 #[.agg #[.int .i64 vk, .int .i64 vn, .float .f64 vf, .string vs, .slice A' m c]] W fun r w' => r = .returned (.bool (t.valid 8)) ∧ Below W0.heap.size W0 w') := Lib.hid fun W hW =>
    (Vt.rvalid_any t W 0 base _ (hv.later ((gb.trans (hW.mono (by omega))).mono hbw)) (by have := hW.size; omega)).mono fun r w' h => ⟨h.1, hW.trans (h.2.mono hW.size)⟩
  clear h hE hv g1 g2 g3 gb
  replace hW0 := Lib.hid hW0
  replace gz := Lib.hid gz
  unfold vCells
  obtain ⟨h1, h2, h3, -⟩ := HG.out W0 (Below.refl _ _)
  obtain ⟨a0, a1, a2, -, -, -⟩ := cells3 h1
  obtain ⟨b0, b1, b2, b3, b4⟩ := h2.cells
  clear h1 h2 h3
  have fin : Hid (∀ W, Below W0.heap.size W0 W → Below w.heap.size w (((W.setCell ⟨w.heap.size + 1 + 1, 0, none⟩ (.int .u64 next)).setCell ⟨w.heap.size + 1 + 1, 1, none⟩ (.int .u64 at')).setCell ⟨w.heap.size + 1 + 1, 2, none⟩ (.slice A es.length cap))) := Lib.hid fun W hW =>
    (((HG.out W hW).2.2.2.setCell (by show w.heap.size ≤ w.heap.size + 1 + 1; omega) _).setCell (by show w.heap.size ≤ w.heap.size + 1 + 1; omega) _).setCell (by show w.heap.size ≤ w.heap.size + 1 + 1; omega) _
  go_enter Try.func29, Try.ntmps29
  go_upto_region 1 with fail
  rw [← hW0.out]
  generalize closedOf es = q at *
  by_cases hq : q = 0
  · subst hq
    have hvf : t.valid 8 = false := by
      rw [Bool.eq_false_iff]
      intro hvt
      exact hbad ⟨rfl, hvt⟩
    rw [hvf] at HV
    go_wp2_with fail
    refine HC.out.mono ?_
    rintro x W1 ⟨rfl, hb1⟩
    obtain ⟨h1, h2, h3, -⟩ := HG.out W1 hb1
    obtain ⟨a0', a1', a2', -, -, -⟩ := cells3 h1
    obtain ⟨b0', b1', b2', b3', b4'⟩ := h2.cells
    have HBE := Lib.hid hb1
    clear hb1 a0 a1 a2 b0 b1 b2 b3 b4 h1 h2 h3
    go_wp2_with fail
    refine (HV.out _ HBE.out).mono ?_
    rintro x W2 ⟨rfl, hb2⟩
    clear HBE a0' a1' a2' b0' b1' b2' b3' b4'
    obtain ⟨h1, h2, h3, -⟩ := HG.out W2 hb2
    obtain ⟨a0', a1', a2', -, -, -⟩ := cells3 h1
    obtain ⟨r0, r1, r2, f0, f1, f2⟩ := cells3 h3
    have HBE := Lib.hid hb2
    clear h1 h2 h3 hb2
    go_wp2_with fail
    refine bodyPost_ret (v := .tuple #[.agg #[.int .u64 next, .int .u64 at', .slice A es.length cap], .bool false]) (by simp [results, Try.results29, go_sem, r0, r1, r2]) rfl ⟨rfl, fin.out _ HBE.out⟩
  · have hqb : (q != 0) = true := by simpa using hq
    go_wp2_with fail
    refine HC.out.mono ?_
    rintro x W1 ⟨rfl, hb1⟩
    obtain ⟨h1, h2, h3, -⟩ := HG.out W1 hb1
    obtain ⟨a0', a1', a2', -, -, -⟩ := cells3 h1
    obtain ⟨r0, r1, r2, f0, f1, f2⟩ := cells3 h3
    have HBE := Lib.hid hb1
    clear hb1 a0 a1 a2 b0 b1 b2 b3 b4 h1 h2 h3
    go_wp2_with fail
    refine bodyPost_ret (v := .tuple #[.agg #[.int .u64 next, .int .u64 at', .slice A es.length cap], .bool false]) (by simp [results, Try.results29, go_sem, r0, r1, r2]) rfl ⟨rfl, fin.out _ HBE.out⟩

set_option maxRecDepth 100000 in
set_option maxHeartbeats 1000000 in
theorem rclose_good (base : Nat) (A : Option Addr) (cap : Nat) (es : List EV) (next at' : Nat) (k : Int) (hk0 : -9223372036854775808 ≤ k) (hk1 : k ≤ 9223372036854775807) (t : VT) (tx : ByteArray) (vk vn : Int) (vf : Nat) (vs : ByteArray) (A' : Option Addr) (m c : Nat) (w : World) (h : MAt w base A cap es) (hn : es.length ≤ 1000000) (hbw : base ≤ w.heap.size)
    (hs : tx.size ≤ maxLen) (hv : Rep w 0 base t (vCells vk vn vf vs A' m c)) (hq : closedOf es = 0) (hvt : t.valid 8 = true) :
    Calls Try.prog 29 #[.agg #[.int .u64 next, .int .u64 at', .slice A es.length cap], .int .i64 k, vCells vk vn vf vs A' m c, .string tx] w fun r w' =>
      ∃ b cap', r = .returned (.tuple #[.agg #[.int .u64 next, .int .u64 at', .slice (some ⟨b, 0, none⟩) (es.length + 1) cap'], .bool true]) ∧ Below w.heap.size w w' ∧ w.heap.size ≤ b ∧ MAt w' base (some ⟨b, 0, none⟩) cap' (es ++ [closeE k t tx]) := by
  have hE := h.read hbw
  obtain ⟨W0, hW0⟩ : ∃ W0, W0 = ((w.alloc (.cells #[.int .u64 next, .int .u64 at', .slice A es.length cap] 30)).alloc (.cells #[.int .i64 vk, .int .i64 vn, .float .f64 vf, .string vs, .slice A' m c] 34)).alloc (.cells #[.int .u64 0, .int .u64 0, .slice none 0 0] 30) := ⟨_, rfl⟩
  obtain ⟨g1, g2, g3, gb, gz⟩ := three w (.cells #[.int .u64 next, .int .u64 at', .slice A es.length cap] 30) (.cells #[.int .i64 vk, .int .i64 vn, .float .f64 vf, .string vs, .slice A' m c] 34) (.cells #[.int .u64 0, .int .u64 0, .slice none 0 0] 30)
  rw [← hW0] at g1 g2 g3 gb gz
  have HG : Hid (∀ W, Below W0.heap.size W0 W → W.heap[w.heap.size]? = some (.cells #[.int .u64 next, .int .u64 at', .slice A es.length cap] 30 (0, 0)) ∧ BoxAt W (w.heap.size + 1) vk vn vf vs A' m c ∧ W.heap[w.heap.size + 1 + 1]? = some (.cells #[.int .u64 0, .int .u64 0, .slice none 0 0] 30 (0, 0)) ∧ Below w.heap.size w W) :=
    Lib.hid fun W hW => ⟨(hW.block _ (by omega)).trans g1, (hW.block _ (by omega)).trans g2, (hW.block _ (by omega)).trans g3, gb.trans (hW.mono (by omega))⟩
  have HC : Hid (Calls Try.prog 14 #[.agg #[.int .u64 next, .int .u64 at', .slice A es.length cap]] W0 fun r w' => r = .returned (.int .i64 (closedOf es)) ∧ Below W0.heap.size W0 w') := Lib.hid (rclosed_any es A cap next at' W0 (hE.later gb) hn)
  have HV : Hid (∀ W, Below W0.heap.size W0 W → Calls Try.prog 24 #[.agg #[.int .i64 vk, .int .i64 vn, .float .f64 vf, .string vs, .slice A' m c]] W fun r w' => r = .returned (.bool (t.valid 8)) ∧ Below W0.heap.size W0 w') := Lib.hid fun W hW =>
    (Vt.rvalid_any t W 0 base _ (hv.later ((gb.trans (hW.mono (by omega))).mono hbw)) (by have := hW.size; omega)).mono fun r w' h => ⟨h.1, hW.trans (h.2.mono hW.size)⟩
  rw [hq] at HC
  rw [hvt] at HV
  have HA : Hid (∀ W, Below W0.heap.size W0 W → Calls Try.prog 47 #[.agg #[.int .u64 next, .int .u64 at', .slice A es.length cap], .agg #[.int .i64 k, .int .u64 0, .int .i64 0, .int .u64 0, .string ⟨#[]⟩, .string (shortOf tx), .int .i64 vk, .int .i64 vn, .float .f64 vf, .string vs, .slice A' m c]] W fun r w' =>
      ∃ b cap', r = .returned (.agg #[.int .u64 next, .int .u64 at', .slice (some ⟨b, 0, none⟩) (es.length + 1) cap']) ∧ Below W0.heap.size W0 w' ∧ W0.heap.size ≤ b ∧ MAt w' base (some ⟨b, 0, none⟩) cap' (es ++ [closeE k t tx])) := Lib.hid fun W hW => by
    have hbs := hW.size
    have hwW := gb.trans (hW.mono (by omega))
    refine (radd_any base A cap es next at' (closeE k t tx) vk vn vf vs A' m c W (h.later hbw hwW) hn (by omega) (close_ok k hk0 hk1 t tx hs) (hv.later (hwW.mono hbw))).mono ?_
    rintro r w' ⟨b, cap', rfl, h1, h2, h3⟩
    exact ⟨b, cap', rfl, hW.trans (h1.mono hbs), by omega, h3⟩
  clear h hE hv g1 g2 g3 gb
  have hz0 : w.heap.size + 1 + 1 + 1 = W0.heap.size := gz.symm
  replace hW0 := Lib.hid hW0
  replace gz := Lib.hid gz
  replace hz0 := Lib.hid hz0
  unfold vCells
  obtain ⟨h1, h2, h3, -⟩ := HG.out W0 (Below.refl _ _)
  obtain ⟨a0, a1, a2, -, -, -⟩ := cells3 h1
  obtain ⟨b0, b1, b2, b3, b4⟩ := h2.cells
  clear h1 h2 h3
  simp only [maxLen] at hs
  go_enter Try.func29, Try.ntmps29
  go_upto_region 1 with fail
  rw [← hW0.out]
  go_wp2_with fail
  refine HC.out.mono ?_
  rintro x W1 ⟨rfl, hb1⟩
  obtain ⟨h1, h2, h3, -⟩ := HG.out W1 hb1
  obtain ⟨a0', a1', a2', -, -, -⟩ := cells3 h1
  obtain ⟨b0', b1', b2', b3', b4'⟩ := h2.cells
  have HBE := Lib.hid hb1
  clear hb1 a0 a1 a2 b0 b1 b2 b3 b4 h1 h2 h3
  go_wp2_with fail
  refine (HV.out _ HBE.out).mono ?_
  rintro x W2 ⟨rfl, hb2⟩
  clear HBE a0' a1' a2' b0' b1' b2' b3' b4'
  obtain ⟨h1, h2, h3, -⟩ := HG.out W2 hb2
  obtain ⟨a0', a1', a2', -, -, -⟩ := cells3 h1
  obtain ⟨b0', b1', b2', b3', b4'⟩ := h2.cells
  have HA1 := Lib.hid (HA.out W2.drew (below_drew hb2))
  clear h1 h2 h3 hb2 HA
  by_cases h1000 : tx.size ≤ 1000
  · have hsh : shortOf tx = tx := if_pos h1000
    rw [hsh] at HA1
    clear hsh
    have hI : (if (1000 : Int) < (tx.size : Int) then (1000 : Int) else (tx.size : Int)) = (tx.size : Int) := if_neg (by omega)
    have hex : tx.extract 0 tx.size = tx := ByteArray.extract_zero_size
    go_upto_region 3 with fail
    refine wp_region_any (by kernel_rfl) ?_
    change wpAny _ _ _ _ _ _ _ (World.drew _)
    refine takeA (i := 1) (v := ?_) rfl (by kernel_rfl) (by kernel_rfl) (by kernel_rfl) (fun _ _ _ h => h) (Or.inl ⟨by rfl, ?_⟩) ?_
    rotate_left 1
    focus (intro w; go_simp; try with_reducible rfl)
    try simp only [Act.put, List.setIfInBounds_toArray, List.set_cons_zero, List.set_cons_succ]
    refine takeA (i := 3) (v := ?_) rfl (by kernel_rfl) (by kernel_rfl) (by kernel_rfl) (fun _ _ _ h => h) (Or.inl ⟨by rfl, ?_⟩) ?_
    rotate_left 1
    focus (intro w; go_simp; try with_reducible rfl)
    try simp only [Act.put, List.setIfInBounds_toArray, List.set_cons_zero, List.set_cons_succ]
    refine takeA (i := 4) (v := ?_) rfl (by kernel_rfl) (by kernel_rfl) (by kernel_rfl) (fun _ _ _ h => h) (Or.inl ⟨by rfl, ?_⟩) ?_
    rotate_left 1
    focus (intro w; go_simp; try with_reducible rfl)
    try simp only [Act.put, List.setIfInBounds_toArray, List.set_cons_zero, List.set_cons_succ]
    refine takeA (i := 5) (v := ?_) rfl (by kernel_rfl) (by kernel_rfl) (by kernel_rfl) (fun _ _ _ h => h) (Or.inl ⟨by rfl, ?_⟩) ?_
    rotate_left 1
    focus (intro w; go_simp; try with_reducible rfl)
    try simp only [Act.put, List.setIfInBounds_toArray, List.set_cons_zero, List.set_cons_succ]
    refine takeA (i := 6) (v := ?_) rfl (by kernel_rfl) (by kernel_rfl) (by kernel_rfl) (fun _ _ _ h => h) (Or.inl ⟨by rfl, ?_⟩) ?_
    rotate_left 1
    focus (intro w; go_simp; try with_reducible rfl)
    try simp only [Act.put, List.setIfInBounds_toArray, List.set_cons_zero, List.set_cons_succ]
    refine takeA (i := 7) (v := ?_) rfl (by kernel_rfl) (by kernel_rfl) (by kernel_rfl) (fun _ _ _ h => h) (Or.inl ⟨by rfl, ?_⟩) ?_
    rotate_left 1
    focus (intro w; go_simp; try with_reducible rfl)
    try simp only [Act.put, List.setIfInBounds_toArray, List.set_cons_zero, List.set_cons_succ]
    refine wpAny_ready (rs := [0, 2]) (by kernel_rfl) (by simp) ?_
    refine consA rfl (fun K hK => ?_) (consA rfl (fun K hK => ?_) AllReady.nil)
    · go_simp
      refine hK _ _ ?_
      clear hK K
      try simp only [Act.put, List.setIfInBounds_toArray, List.set_cons_zero, List.set_cons_succ]
      refine wpAny_ready (rs := [2]) (by kernel_rfl) (by simp) ?_
      refine consA rfl (fun K hK => ?_) AllReady.nil
      go_simp
      refine hK _ _ ?_
      clear hK K
      try simp only [Act.put, List.setIfInBounds_toArray, List.set_cons_zero, List.set_cons_succ]
      refine takeA (i := 8) (v := ?_) rfl (by kernel_rfl) (by kernel_rfl) (by kernel_rfl) (fun _ _ _ h => h) (Or.inl ⟨by rfl, ?_⟩) ?_
      rotate_left 1
      focus (intro w; go_simp; try with_reducible rfl)
      try simp only [Act.put, List.setIfInBounds_toArray, List.set_cons_zero, List.set_cons_succ]
      refine wpAny_ready (rs := [9]) (by kernel_rfl) (by simp) ?_
      refine consA rfl (fun K hK => ?_) AllReady.nil
      go_simp
      refine HA1.out.mono ?_
      rintro x W3 ⟨b, cap', rfl, hb3, hbg, hm⟩
      obtain ⟨h1, h2, h3, hbb⟩ := HG.out W3 hb3
      obtain ⟨r0, r1, r2, f3, f4, f5⟩ := cells3 h3
      have HBB := Lib.hid hbb
      have HM := Lib.hid hm
      clear h1 h2 h3 hbb hm hb3
      go_wp2_with fail
      try simp only [Act.put, List.setIfInBounds_toArray, List.set_cons_zero, List.set_cons_succ]
      refine wpAny_ready (rs := [10]) (by kernel_rfl) (by simp) ?_
      refine consA rfl (fun K hK => ?_) AllReady.nil
      go_simp
      refine hK _ _ ?_
      clear hK K
      try simp only [Act.put, List.setIfInBounds_toArray, List.set_cons_zero, List.set_cons_succ]
      refine takeA (i := 11) (v := ?_) rfl (by kernel_rfl) (by kernel_rfl) (by kernel_rfl) (fun _ _ _ h => h) (Or.inl ⟨by rfl, ?_⟩) ?_
      rotate_left 1
      focus (intro w; go_simp; try with_reducible rfl)
      try simp only [Act.put, List.setIfInBounds_toArray, List.set_cons_zero, List.set_cons_succ]
      refine wpAny_done (by kernel_rfl) ?_ _
      go_wp2_with fail
      refine bodyPost_ret (v := .tuple #[.agg #[.int .u64 next, .int .u64 at', .slice (some ⟨b, 0, none⟩) (es.length + 1) cap'], .bool true]) (by simp [results, Try.results29, go_sem, r0, r1, r2]) rfl ⟨b, cap', rfl, ?_, by have := hz0.out; omega, ?_⟩
      · have HBO := HBB.out
        repeat (first | (with_reducible exact HBO) | refine Below.setCell ?_ (by simp only []; omega) _)
      · have HMO := HM.out
        have hz := hz0.out
        repeat (first | (with_reducible exact HMO) | refine MAt.set ?_ (by simp only []; omega) (by intro r hr; cases hr; simp only []; omega) _)
    · go_simp
      refine hK _ _ ?_
      clear hK K
      try simp only [Act.put, List.setIfInBounds_toArray, List.set_cons_zero, List.set_cons_succ]
      refine takeA (i := 8) (v := ?_) rfl (by kernel_rfl) (by kernel_rfl) (by kernel_rfl) (fun _ _ _ h => h) (Or.inl ⟨by rfl, ?_⟩) ?_
      rotate_left 1
      focus (intro w; go_simp; try with_reducible rfl)
      try simp only [Act.put, List.setIfInBounds_toArray, List.set_cons_zero, List.set_cons_succ]
      refine wpAny_ready (rs := [0]) (by kernel_rfl) (by simp) ?_
      refine consA rfl (fun K hK => ?_) AllReady.nil
      go_simp
      refine hK _ _ ?_
      clear hK K
      try simp only [Act.put, List.setIfInBounds_toArray, List.set_cons_zero, List.set_cons_succ]
      refine wpAny_ready (rs := [9]) (by kernel_rfl) (by simp) ?_
      refine consA rfl (fun K hK => ?_) AllReady.nil
      go_simp
      refine HA1.out.mono ?_
      rintro x W3 ⟨b, cap', rfl, hb3, hbg, hm⟩
      obtain ⟨h1, h2, h3, hbb⟩ := HG.out W3 hb3
      obtain ⟨r0, r1, r2, f3, f4, f5⟩ := cells3 h3
      have HBB := Lib.hid hbb
      have HM := Lib.hid hm
      clear h1 h2 h3 hbb hm hb3
      go_wp2_with fail
      try simp only [Act.put, List.setIfInBounds_toArray, List.set_cons_zero, List.set_cons_succ]
      refine wpAny_ready (rs := [10]) (by kernel_rfl) (by simp) ?_
      refine consA rfl (fun K hK => ?_) AllReady.nil
      go_simp
      refine hK _ _ ?_
      clear hK K
      try simp only [Act.put, List.setIfInBounds_toArray, List.set_cons_zero, List.set_cons_succ]
      refine takeA (i := 11) (v := ?_) rfl (by kernel_rfl) (by kernel_rfl) (by kernel_rfl) (fun _ _ _ h => h) (Or.inl ⟨by rfl, ?_⟩) ?_
      rotate_left 1
      focus (intro w; go_simp; try with_reducible rfl)
      try simp only [Act.put, List.setIfInBounds_toArray, List.set_cons_zero, List.set_cons_succ]
      refine wpAny_done (by kernel_rfl) ?_ _
      go_wp2_with fail
      refine bodyPost_ret (v := .tuple #[.agg #[.int .u64 next, .int .u64 at', .slice (some ⟨b, 0, none⟩) (es.length + 1) cap'], .bool true]) (by simp [results, Try.results29, go_sem, r0, r1, r2]) rfl ⟨b, cap', rfl, ?_, by have := hz0.out; omega, ?_⟩
      · have HBO := HBB.out
        repeat (first | (with_reducible exact HBO) | refine Below.setCell ?_ (by simp only []; omega) _)
      · have HMO := HM.out
        have hz := hz0.out
        repeat (first | (with_reducible exact HMO) | refine MAt.set ?_ (by simp only []; omega) (by intro r hr; cases hr; simp only []; omega) _)
  · have hsh : shortOf tx = tx.extract 0 1000 := if_neg h1000
    rw [hsh] at HA1
    clear hsh
    have hI : (1000 : Int) < (tx.size : Int) := by omega
    have hI2 : (1000 : Int) ≤ (tx.size : Int) := by omega
    go_upto_region 3 with fail
    refine wp_region_any (by kernel_rfl) ?_
    change wpAny _ _ _ _ _ _ _ (World.drew _)
    refine takeA (i := 1) (v := ?_) rfl (by kernel_rfl) (by kernel_rfl) (by kernel_rfl) (fun _ _ _ h => h) (Or.inl ⟨by rfl, ?_⟩) ?_
    rotate_left 1
    focus (intro w; go_simp; try with_reducible rfl)
    try simp only [Act.put, List.setIfInBounds_toArray, List.set_cons_zero, List.set_cons_succ]
    refine takeA (i := 3) (v := ?_) rfl (by kernel_rfl) (by kernel_rfl) (by kernel_rfl) (fun _ _ _ h => h) (Or.inl ⟨by rfl, ?_⟩) ?_
    rotate_left 1
    focus (intro w; go_simp; try with_reducible rfl)
    try simp only [Act.put, List.setIfInBounds_toArray, List.set_cons_zero, List.set_cons_succ]
    refine takeA (i := 4) (v := ?_) rfl (by kernel_rfl) (by kernel_rfl) (by kernel_rfl) (fun _ _ _ h => h) (Or.inl ⟨by rfl, ?_⟩) ?_
    rotate_left 1
    focus (intro w; go_simp; try with_reducible rfl)
    try simp only [Act.put, List.setIfInBounds_toArray, List.set_cons_zero, List.set_cons_succ]
    refine takeA (i := 5) (v := ?_) rfl (by kernel_rfl) (by kernel_rfl) (by kernel_rfl) (fun _ _ _ h => h) (Or.inl ⟨by rfl, ?_⟩) ?_
    rotate_left 1
    focus (intro w; go_simp; try with_reducible rfl)
    try simp only [Act.put, List.setIfInBounds_toArray, List.set_cons_zero, List.set_cons_succ]
    refine takeA (i := 6) (v := ?_) rfl (by kernel_rfl) (by kernel_rfl) (by kernel_rfl) (fun _ _ _ h => h) (Or.inl ⟨by rfl, ?_⟩) ?_
    rotate_left 1
    focus (intro w; go_simp; try with_reducible rfl)
    try simp only [Act.put, List.setIfInBounds_toArray, List.set_cons_zero, List.set_cons_succ]
    refine takeA (i := 7) (v := ?_) rfl (by kernel_rfl) (by kernel_rfl) (by kernel_rfl) (fun _ _ _ h => h) (Or.inl ⟨by rfl, ?_⟩) ?_
    rotate_left 1
    focus (intro w; go_simp; try with_reducible rfl)
    try simp only [Act.put, List.setIfInBounds_toArray, List.set_cons_zero, List.set_cons_succ]
    refine wpAny_ready (rs := [0, 2]) (by kernel_rfl) (by simp) ?_
    refine consA rfl (fun K hK => ?_) (consA rfl (fun K hK => ?_) AllReady.nil)
    · go_simp
      refine hK _ _ ?_
      clear hK K
      try simp only [Act.put, List.setIfInBounds_toArray, List.set_cons_zero, List.set_cons_succ]
      refine wpAny_ready (rs := [2]) (by kernel_rfl) (by simp) ?_
      refine consA rfl (fun K hK => ?_) AllReady.nil
      go_simp
      refine hK _ _ ?_
      clear hK K
      try simp only [Act.put, List.setIfInBounds_toArray, List.set_cons_zero, List.set_cons_succ]
      refine takeA (i := 8) (v := ?_) rfl (by kernel_rfl) (by kernel_rfl) (by kernel_rfl) (fun _ _ _ h => h) (Or.inl ⟨by rfl, ?_⟩) ?_
      rotate_left 1
      focus (intro w; go_simp; try with_reducible rfl)
      try simp only [Act.put, List.setIfInBounds_toArray, List.set_cons_zero, List.set_cons_succ]
      refine wpAny_ready (rs := [9]) (by kernel_rfl) (by simp) ?_
      refine consA rfl (fun K hK => ?_) AllReady.nil
      go_simp
      refine HA1.out.mono ?_
      rintro x W3 ⟨b, cap', rfl, hb3, hbg, hm⟩
      obtain ⟨h1, h2, h3, hbb⟩ := HG.out W3 hb3
      obtain ⟨r0, r1, r2, f3, f4, f5⟩ := cells3 h3
      have HBB := Lib.hid hbb
      have HM := Lib.hid hm
      clear h1 h2 h3 hbb hm hb3
      go_wp2_with fail
      try simp only [Act.put, List.setIfInBounds_toArray, List.set_cons_zero, List.set_cons_succ]
      refine wpAny_ready (rs := [10]) (by kernel_rfl) (by simp) ?_
      refine consA rfl (fun K hK => ?_) AllReady.nil
      go_simp
      refine hK _ _ ?_
      clear hK K
      try simp only [Act.put, List.setIfInBounds_toArray, List.set_cons_zero, List.set_cons_succ]
      refine takeA (i := 11) (v := ?_) rfl (by kernel_rfl) (by kernel_rfl) (by kernel_rfl) (fun _ _ _ h => h) (Or.inl ⟨by rfl, ?_⟩) ?_
      rotate_left 1
      focus (intro w; go_simp; try with_reducible rfl)
      try simp only [Act.put, List.setIfInBounds_toArray, List.set_cons_zero, List.set_cons_succ]
      refine wpAny_done (by kernel_rfl) ?_ _
      go_wp2_with fail
      refine bodyPost_ret (v := .tuple #[.agg #[.int .u64 next, .int .u64 at', .slice (some ⟨b, 0, none⟩) (es.length + 1) cap'], .bool true]) (by simp [results, Try.results29, go_sem, r0, r1, r2]) rfl ⟨b, cap', rfl, ?_, by have := hz0.out; omega, ?_⟩
      · have HBO := HBB.out
        repeat (first | (with_reducible exact HBO) | refine Below.setCell ?_ (by simp only []; omega) _)
      · have HMO := HM.out
        have hz := hz0.out
        repeat (first | (with_reducible exact HMO) | refine MAt.set ?_ (by simp only []; omega) (by intro r hr; cases hr; simp only []; omega) _)
    · go_simp
      refine hK _ _ ?_
      clear hK K
      try simp only [Act.put, List.setIfInBounds_toArray, List.set_cons_zero, List.set_cons_succ]
      refine takeA (i := 8) (v := ?_) rfl (by kernel_rfl) (by kernel_rfl) (by kernel_rfl) (fun _ _ _ h => h) (Or.inl ⟨by rfl, ?_⟩) ?_
      rotate_left 1
      focus (intro w; go_simp; try with_reducible rfl)
      try simp only [Act.put, List.setIfInBounds_toArray, List.set_cons_zero, List.set_cons_succ]
      refine wpAny_ready (rs := [0]) (by kernel_rfl) (by simp) ?_
      refine consA rfl (fun K hK => ?_) AllReady.nil
      go_simp
      refine hK _ _ ?_
      clear hK K
      try simp only [Act.put, List.setIfInBounds_toArray, List.set_cons_zero, List.set_cons_succ]
      refine wpAny_ready (rs := [9]) (by kernel_rfl) (by simp) ?_
      refine consA rfl (fun K hK => ?_) AllReady.nil
      go_simp
      refine HA1.out.mono ?_
      rintro x W3 ⟨b, cap', rfl, hb3, hbg, hm⟩
      obtain ⟨h1, h2, h3, hbb⟩ := HG.out W3 hb3
      obtain ⟨r0, r1, r2, f3, f4, f5⟩ := cells3 h3
      have HBB := Lib.hid hbb
      have HM := Lib.hid hm
      clear h1 h2 h3 hbb hm hb3
      go_wp2_with fail
      try simp only [Act.put, List.setIfInBounds_toArray, List.set_cons_zero, List.set_cons_succ]
      refine wpAny_ready (rs := [10]) (by kernel_rfl) (by simp) ?_
      refine consA rfl (fun K hK => ?_) AllReady.nil
      go_simp
      refine hK _ _ ?_
      clear hK K
      try simp only [Act.put, List.setIfInBounds_toArray, List.set_cons_zero, List.set_cons_succ]
      refine takeA (i := 11) (v := ?_) rfl (by kernel_rfl) (by kernel_rfl) (by kernel_rfl) (fun _ _ _ h => h) (Or.inl ⟨by rfl, ?_⟩) ?_
      rotate_left 1
      focus (intro w; go_simp; try with_reducible rfl)
      try simp only [Act.put, List.setIfInBounds_toArray, List.set_cons_zero, List.set_cons_succ]
      refine wpAny_done (by kernel_rfl) ?_ _
      go_wp2_with fail
      refine bodyPost_ret (v := .tuple #[.agg #[.int .u64 next, .int .u64 at', .slice (some ⟨b, 0, none⟩) (es.length + 1) cap'], .bool true]) (by simp [results, Try.results29, go_sem, r0, r1, r2]) rfl ⟨b, cap', rfl, ?_, by have := hz0.out; omega, ?_⟩
      · have HBO := HBB.out
        repeat (first | (with_reducible exact HBO) | refine Below.setCell ?_ (by simp only []; omega) _)
      · have HMO := HM.out
        have hz := hz0.out
        repeat (first | (with_reducible exact HMO) | refine MAt.set ?_ (by simp only []; omega) (by intro r hr; cases hr; simp only []; omega) _)
end Cm
end Go.Proofs.Ytpnepnhajpmccaa
