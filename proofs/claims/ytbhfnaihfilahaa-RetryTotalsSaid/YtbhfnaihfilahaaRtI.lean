/- retry.Total. -/
import Derived.Test.YtbhfnaihfilahaaRtH
import Derived.RangeFuncCalls
namespace Go.Proofs.Ytbhfnaihfilahaa
open Go.RowKit Go.Shelf
namespace Rt
open Nm (ret_int ret_bool scaleW addW)
attribute [local go_sem] Oper.semAt_some

theorem total_no (most : Int) (wt fb lim tmo : Nat) (hv : ¬ Vld most wt lim tmo) (w : World) :
    Calls Try.prog 14 #[pol most wt fb lim tmo] w fun e w' => e = .returned (.int .u64 0) ∧ Below w.heap.size w w' := by
  have V := Lib.hid (fun w => valid_no most wt fb lim tmo hv w)
  clear hv
  unfold pol at *
  go_enter Try.func14, Try.ntmps14
  go_wp2_with fail
  refine (V.out _).mono ?_
  rintro e W1 ⟨rfl, hb1⟩
  have q6 : W1.cell? ⟨w.heap.size + 1, 0, none⟩ = some (.int .u64 0) := (hb1.cell (p := ⟨w.heap.size + 1, 0, none⟩) (by simp)).trans (by simp [go_sem])
  have hB : Below w.heap.size w W1 := (((Below.refl _ _).alloc (Nat.le_refl _) _).alloc (by simp) _).trans (hb1.mono (by simp; omega))
  have HB := Lib.hid hB
  clear hb1 hB
  go_wp2_with fail
  go_ret
  exact ⟨rfl, HB.out⟩

/-- The caller's own boxes: the policy's first cell, and the sum. -/
def Ct (w : World) (m : Nat) (most : Int) (r : Nat) (W : World) : Prop :=
  W.cell? ⟨w.heap.size, 0, none⟩ = some (.int .i64 most) ∧ W.cell? ⟨w.heap.size + 1, 0, none⟩ = some (.int .u64 r) ∧ W.frozen? ⟨w.heap.size + 1, 0, none⟩ = false ∧ Below w.heap.size w W ∧ m ≤ W.heap.size
theorem ct_put {w : World} {m : Nat} {x : Int} {r : Nat} {W : World} {l : Nat} {o : Obj} (o' : Obj) (hs : Ct w m x r W) (hm : w.heap.size ≤ m) (hl : m ≤ l) (h : W.heap[l]? = some o) (hc : o.isCells = false) : Ct w m x r (W.putObj l o') := by
  obtain ⟨h1, h2, h3, h4, h5⟩ := hs
  exact ⟨cell_put o' h hc h1, cell_put o' h hc h2, (frozen_put o' h hc h2).trans h3, below_put o' h4 (by omega) (by omega), by rw [World.putObj_size]; exact h5⟩
theorem ct_alloc {w : World} {m : Nat} {x : Int} {r : Nat} {W : World} (hs : Ct w m x r W) (hm : w.heap.size ≤ m) (o : Obj) : Ct w m x r (W.alloc o) := by
  obtain ⟨h1, h2, h3, h4, h5⟩ := hs
  exact ⟨cell_alloc_l _ h1, cell_alloc_l _ h2, frozen_alloc_l _ h2 h3, h4.alloc (by omega) _, by simp; omega⟩
theorem ct_set {w : World} {m : Nat} {x : Int} {r : Nat} {W : World} (hs : Ct w m x r W) {bd : Nat} (hb : w.heap.size + 1 < bd) (v : Value) : Ct w m x r (W.setCell ⟨bd, 0, none⟩ v) := by
  obtain ⟨h1, h2, h3, h4, h5⟩ := hs
  refine ⟨(cell_set_other (by omega) _).trans h1, (cell_set_other (by omega) _).trans h2, ?_, h4.setCell (p := ⟨bd, 0, none⟩) (by simp only []; omega) _, by simpa [World.setCell] using h5⟩
  rw [World.frozen?_setCell]; exact h3

theorem own3_far {bd bp bg fb lim v x : Nat} {W : World} (hs : Own3 bd bp bg fb lim v W) (h0 : bd ≠ x) (h1 : bp ≠ x) (h2 : bg ≠ x) (y : Value) : Own3 bd bp bg fb lim v (W.setCell ⟨x, 0, none⟩ y) := by
  obtain ⟨a1, a2, a3, a4, a5⟩ := hs
  exact ⟨(cell_set_other h0 _).trans a1, by rw [World.frozen?_setCell]; exact a2, (cell_set_other h1 _).trans a3, (cell_set_other h1 _).trans a4, (cell_set_other h2 _).trans a5⟩
theorem ct_sum {w : World} {m : Nat} {x : Int} {r : Nat} {W : World} (hs : Ct w m x r W) (u : Nat) : Ct w m x u (W.setCell ⟨w.heap.size + 1, 0, none⟩ (.int .u64 u)) := by
  obtain ⟨h1, h2, h3, h4, h5⟩ := hs
  exact ⟨(cell_set_other (by omega) _).trans h1, World.cell?_setCell_same' _ _ _ (by rw [h2]; rfl), by rw [World.frozen?_setCell]; exact h3, h4.setCell (p := ⟨w.heap.size + 1, 0, none⟩) (by simp) _, by simpa [World.setCell] using h5⟩

set_option maxHeartbeats 2000000 in
set_option maxRecDepth 100000 in
theorem total_yes (most : Int) (wt fb lim tmo : Nat) (hv : Vld most wt lim tmo) (w : World) :
    Calls Try.prog 14 #[pol most wt fb lim tmo] w fun e w' => e = .returned (.int .u64 (tot wt fb lim (most - 1).toNat)) ∧ Below w.heap.size w w' := by
  obtain ⟨R, hR⟩ : ∃ R, R = tot wt fb lim (most - 1).toNat := ⟨_, rfl⟩
  rw [← hR]
  have HR := Lib.hid hR; clear hR
  refine (callsIn_wide (n := 9)).1 ?_
  refine callsIn_of_wp_marks Try.func14 rfl trivial ?_ rfl
  have V := Lib.hid (fun w => valid_yes most wt fb lim tmo hv w)
  unfold pol at *
  simp only [Try.ntmps14, List.size_toArray, List.length_cons, List.length_nil, Nat.reduceAdd, Nat.reduceSub, Array.replicate_succ, Array.replicate_zero, List.push_toArray, List.append_toArray, List.nil_append, List.cons_append]
  gi_wp2_with fail
  refine ⟨trivial, (callsIn_wide.2 (V.out _)).mono ?_⟩
  rintro e W1 ⟨rfl, hb1⟩
  have hA : Below w.heap.size w ((w.alloc (.cells (polCells most wt fb lim tmo) 28)).alloc (.cells #[.int .u64 0] 22)) :=
    ((Below.refl _ _).alloc (Nat.le_refl _) _).alloc (by simp) _
  have hB : Below w.heap.size w W1 := hA.trans (hb1.mono (by simp; omega))
  have hz : w.heap.size + 1 < W1.heap.size := by have := hb1.size; simp at this; omega
  have q0 : W1.cell? ⟨w.heap.size, 0, none⟩ = some (.int .i64 most) := (hb1.cell (p := ⟨w.heap.size, 0, none⟩) (by simp; omega)).trans (by simp [go_sem])
  have q1 : W1.cell? ⟨w.heap.size, 1, none⟩ = some (.int .u64 wt) := (hb1.cell (p := ⟨w.heap.size, 1, none⟩) (by simp; omega)).trans (by simp [go_sem])
  have q2 : W1.cell? ⟨w.heap.size, 2, none⟩ = some (.float .f64 fb) := (hb1.cell (p := ⟨w.heap.size, 2, none⟩) (by simp; omega)).trans (by simp [go_sem])
  have q3 : W1.cell? ⟨w.heap.size, 3, none⟩ = some (.int .u64 lim) := (hb1.cell (p := ⟨w.heap.size, 3, none⟩) (by simp; omega)).trans (by simp [go_sem])
  have q4 : W1.cell? ⟨w.heap.size, 4, none⟩ = some (.int .u64 tmo) := (hb1.cell (p := ⟨w.heap.size, 4, none⟩) (by simp; omega)).trans (by simp [go_sem])
  have q6 : W1.cell? ⟨w.heap.size + 1, 0, none⟩ = some (.int .u64 0) := (hb1.cell (p := ⟨w.heap.size + 1, 0, none⟩) (by simp)).trans (by simp [go_sem])
  have q7 : W1.frozen? ⟨w.heap.size + 1, 0, none⟩ = false := (hb1.frozen (p := ⟨w.heap.size + 1, 0, none⟩) (by simp)).trans (by simp [go_sem])
  have HB := Lib.hid hB; have HZ := Lib.hid hz
  clear hA hB hb1 hz V
  gi_wp2_with fail
  refine ⟨trivial, (callsIn_wide.2 (delays_new most wt fb lim tmo W1)).mono ?_⟩
  rintro e W2 ⟨rfl, hW2⟩
  gi_wp2_with fail
  have c2 : Ct w W2.heap.size most 0 W2 := by
    rw [← hW2]
    have hz := HZ.out
    exact ⟨cell_alloc_l _ (cell_alloc_l _ (cell_alloc_l _ q0)), cell_alloc_l _ (cell_alloc_l _ (cell_alloc_l _ q6)),
      frozen_alloc_l _ (cell_alloc_l _ (cell_alloc_l _ q6)) (frozen_alloc_l _ (cell_alloc_l _ q6) (frozen_alloc_l _ q6 q7)),
      ((HB.out.alloc (by omega) _).alloc (by simp; omega) _).alloc (by simp; omega) _, Nat.le_refl _⟩
  have o2 : Own3 (W1.heap.size + 1) W1.heap.size (W1.heap.size + 1 + 1) fb lim wt W2 := by
    rw [← hW2]
    refine ⟨by simp [go_sem], by simp [go_sem], by simp [go_sem, polCells], by simp [go_sem, polCells], by simp [go_sem]⟩
  have z2 : W1.heap.size + 1 < W2.heap.size := by rw [← hW2]; simp
  have hz := HZ.out
  obtain ⟨bp, hbp⟩ : ∃ bp, bp = W1.heap.size := ⟨_, rfl⟩
  rw [← hbp] at o2 z2 hz ⊢
  clear hW2 q0 q1 q2 q3 q4 q6 q7 HB HZ hbp
  obtain ⟨hv1, hv2, hv3, hv4, hv5⟩ := hv
  have AD : Hid (∀ (k : Nat) (w : World), Calls Try.prog 21 #[.int .u64 (tot wt fb lim k), .int .u64 (max (dl wt fb lim k) 1 : Nat)] w fun e w' => e = .returned (.int .u64 (tot wt fb lim (k + 1))) ∧ w = w') :=
    Lib.hid fun k w => Nm.add_any (tot wt fb lim k) (max (dl wt fb lim k) 1) (by have := tot_lt wt fb lim k; omega) (by have := dl_le wt fb lim k; omega) w
  refine range_law (σ := Nat) rfl (by omega) (gf := 26) (lb := #[.pointer (some ⟨bp + 1, 0, none⟩), .pointer (some ⟨bp, 0, none⟩), .pointer (some ⟨bp + 1 + 1, 0, none⟩)]) rfl trivial (enters_of Try.func26 (by kernel_rfl) rfl)
    (fun k => #[.int .i64 ((k : Int) + 1), .int .u64 (dl wt fb lim k)]) (fun _ => rfl)
    (fun k W => k < 100 ∧ (k : Int) + 1 ≤ most ∧ Ct w W2.heap.size most (tot wt fb lim k) W ∧ Own3 (bp + 1) bp (bp + 1 + 1) fb lim (dl wt fb lim k) W)
    (fun k W => k < 100 ∧ (k : Int) + 1 + 1 ≤ most ∧ Ct w W2.heap.size most (tot wt fb lim (k + 1)) W ∧ Own3 (bp + 1) bp (bp + 1 + 1) fb lim (dl wt fb lim k) W)
    (fun c W => c = .exit 0 ∧ Ct w W2.heap.size most R W)
    (fun W => False)
    (fun k W l o o' h hl ho hc => ⟨h.1, h.2.1, ct_put o' h.2.2.1 (by omega) hl ho hc, own3_put o' ho hc h.2.2.2⟩)
    (fun k W l o o' h hl ho hc => ⟨h.1, h.2.1, ct_put o' h.2.2.1 (by omega) hl ho hc, own3_put o' ho hc h.2.2.2⟩)
    (fun c W l o o' h hl ho hc => ⟨h.1, ct_put o' h.2 (by omega) hl ho hc⟩)
    (fun W l o o' h hl ho hc => h)
    (fun k => { tmps := #[.agg #[.int .i64 most, .int .u64 wt, .float .f64 fb, .int .u64 lim, .int .u64 tmo], .pointer (some ⟨w.heap.size, 0, none⟩), .int .u64 0, .pointer (some ⟨w.heap.size + 1, 0, none⟩), .int .i64 ((k : Int) + 1), .int .u64 (dl wt fb lim k),
      .agg #[.int .i64 most, .int .u64 wt, .float .f64 fb, .int .u64 lim, .int .u64 tmo], .bool true, .bool false, undef, .agg #[.int .i64 most, .int .u64 wt, .float .f64 fb, .int .u64 lim, .int .u64 tmo],
      .func (.func 26) #[] #[.pointer (some ⟨bp + 1, 0, none⟩), .pointer (some ⟨bp, 0, none⟩), .pointer (some ⟨bp + 1 + 1, 0, none⟩)], .int .i64 ((k : Int) + 1), .int .u64 (dl wt fb lim k), undef, undef, undef, undef, undef, undef, undef, undef, undef], defers := [] })
    ?assign ?body ?iter ?done ?stop
  case assign =>
    intro l k W K hK
    gi_wp2
    exact hK
  case body =>
    rintro l k W ⟨hk, hle, ⟨h1, h2, h3, h4, h5⟩, ho⟩
    by_cases he : most ≤ (k : Int) + 1
    · have hkm : tot wt fb lim k = R := by rw [HR.out]; congr 1; omega
      rw [hkm] at h2
      clear hkm
      gi_wp2
      exact ⟨KeepsOthers.refl _, rfl, ⟨h1, h2, h3, h4, h5⟩⟩
    · have hle2 : (k : Int) + 1 + 1 ≤ most := by omega
      have AK := AD.out k
      obtain ⟨u, hu⟩ : ∃ u, u = tot wt fb lim (k + 1) := ⟨_, rfl⟩
      rw [← hu] at AK ⊢
      clear hu
      obtain ⟨d, hd⟩ : ∃ d, d = dl wt fb lim k := ⟨_, rfl⟩
      rw [← hd] at AK ho ⊢
      generalize tot wt fb lim k = t at *
      have sp : (d = 0 ∧ max d 1 = 1) ∨ ((1 : Int) ≤ d ∧ max d 1 = d) := by omega
      clear hd
      rcases sp with ⟨rfl, e⟩ | ⟨hd1, e⟩
      all_goals
        rw [e] at AK
        have AK := Lib.hid AK
        clear e
        gi_wp2_with fail
        refine ⟨trivial, (CallsIn.inRound l (callsIn_wide.2 (AK.out _))).mono ?_⟩
        rintro e w' ⟨rfl, rfl⟩
        gi_wp2_with fail
        exact ⟨KeepsOthers.setCell _ _ _, hk, hle2, ct_sum ⟨h1, h2, h3, h4, h5⟩ _, own3_far ho (by omega) (by omega) (by omega) _⟩
  case iter =>
    intro l o o' L L' ho ho' hLs hLd hY hl0
    refine iter_in 8 (by omega) l (bp + 1) bp (bp + 1 + 1) wt fb lim (by omega)
      (fun k W => (k : Int) + 1 ≤ most ∧ Ct w W2.heap.size most (tot wt fb lim k) W ∧ Own3 (bp + 1) bp (bp + 1 + 1) fb lim (rawD wt fb lim k) W)
      (fun k W => k < 100 ∧ (k : Int) + 1 ≤ most ∧ Ct w W2.heap.size most (tot wt fb lim k) W ∧ Own3 (bp + 1) bp (bp + 1 + 1) fb lim (dl wt fb lim k) W)
      (fun k W => k < 100 ∧ (k : Int) + 1 + 1 ≤ most ∧ Ct w W2.heap.size most (tot wt fb lim (k + 1)) W ∧ Own3 (bp + 1) bp (bp + 1 + 1) fb lim (dl wt fb lim k) W)
      (fun c W => c = .exit 0 ∧ Ct w W2.heap.size most R W)
      L L' (fun k W h => h.2.2) (fun k W hk h => ⟨hk, h.1, ct_set h.2.1 (by omega) _, own3_set h.2.2 (by omega) (by omega) _⟩) (fun k W h => h.2.2.2)
      (fun k W h => ⟨by have := h.2.1; omega, ct_set h.2.2.1 (by omega) _, own3_set h.2.2.2 (by omega) (by omega) _⟩)
      (fun W v h => hLs W ⟨bp + 1, 0, none⟩ v (by simp only []; omega) h) (fun k W h hl => hY k W h hl) _ ⟨by omega, ct_alloc (ct_alloc c2 (by omega) _) (by omega) _, own3_alloc (own3_alloc o2 _) _⟩ hl0 |>.mono ?_
    rintro e W' ⟨hv, ⟨h, hl⟩ | h⟩
    · exact absurd h.1 (by omega)
    · exact ⟨hv, .inr h⟩
  case done =>
    rintro D W hD h hK
    exact h.elim
  case stop =>
    rintro D c W hD ⟨rfl, ⟨h1, h2, h3, h4, h5⟩⟩ hK
    gi_wp2
    refine ⟨by simp, .inl ⟨_, _, rfl, run_takeDeferred hK, ?_⟩⟩
    refine ⟨.int .u64 R, by simp [results, Try.results14, go_sem], rfl, below_put _ h4 (by omega) (by omega)⟩
end Rt
end Go.Proofs.Ytbhfnaihfilahaa
