/- retry.Delay: what it returns. -/
import Derived.Test.YtdibokeinmhmbaaDoorRtB
import Derived.Shelf.Abstract
namespace Go.Proofs.YtdibokeinmhmbaaDoor
open Go.RowKit Go.Shelf
namespace Rt
open Nm (ret_int ret_bool scaleW addW)
attribute [local go_sem] Oper.semAt_some

theorem new_ne {W : World} {a : Addr} {v : Value} (h : W.cell? a = some v) : a.block ≠ W.heap.size := by
  intro e
  have hn : W.heap[a.block]? = none := by rw [e]; simp
  simp [World.cell?, hn] at h
theorem cell_alloc_l {W : World} {a : Addr} {v : Value} (o : Obj) (h : W.cell? a = some v) : (W.alloc o).cell? a = some v :=
  (World.cell?_alloc_old _ _ _ (new_ne h)).trans h
theorem frozen_alloc_l {W : World} {a : Addr} {v : Value} (o : Obj) (h : W.cell? a = some v) (hf : W.frozen? a = false) : (W.alloc o).frozen? a = false :=
  (World.frozen?_alloc_old _ _ _ (new_ne h)).trans hf
theorem cell_put {W : World} {l : Nat} {o : Obj} (o' : Obj) (h : W.heap[l]? = some o) (hc : o.isCells = false) {x : Addr} {v : Value} (hs : W.cell? x = some v) : (W.putObj l o').cell? x = some v :=
  cell_kept hs (grownBy_putObj' W l o') (fun r e => by cases e; exact ⟨o, h, hc⟩)
theorem frozen_put {W : World} {l : Nat} {o : Obj} (o' : Obj) (h : W.heap[l]? = some o) (hc : o.isCells = false) {x : Addr} {v : Value} (hs : W.cell? x = some v) : (W.putObj l o').frozen? x = W.frozen? x :=
  frozen_kept hs (grownBy_putObj' W l o') (fun r e => by cases e; exact ⟨o, h, hc⟩)
theorem below_put {m : Nat} {w W : World} {l : Nat} (o' : Obj) (hw : Below m w W) (hm : m ≤ W.heap.size) (hl : m ≤ l) : Below m w (W.putObj l o') :=
  hw.grown (grownBy_putObj' W l o') hm (fun k e => by cases e; exact hl)
theorem own3_put {bd bp bg fb lim v : Nat} {W : World} {l : Nat} {o : Obj} (o' : Obj) (h : W.heap[l]? = some o) (hc : o.isCells = false) (hs : Own3 bd bp bg fb lim v W) : Own3 bd bp bg fb lim v (W.putObj l o') := by
  obtain ⟨h1, h2, h3, h4, h5⟩ := hs
  exact ⟨cell_put o' h hc h1, (frozen_put o' h hc h1).trans h2, cell_put o' h hc h3, cell_put o' h hc h4, cell_put o' h hc h5⟩
theorem cell_set_other {W : World} {b bd o : Nat} (h : b ≠ bd) (v : Value) : (W.setCell ⟨bd, 0, none⟩ v).cell? ⟨b, o, none⟩ = W.cell? ⟨b, o, none⟩ :=
  World.cell?_of_block (w := W) (Below.heap_setCell W ⟨bd, 0, none⟩ v b h)
/-- A store into d: the rest of the iterator's cells stay. -/
theorem own3_set {bd bp bg fb lim v : Nat} {W : World} (hs : Own3 bd bp bg fb lim v W) (h1 : bp ≠ bd) (h2 : bg ≠ bd) (v' : Nat) : Own3 bd bp bg fb lim v' (W.setCell ⟨bd, 0, none⟩ (.int .u64 v')) := by
  obtain ⟨a1, a2, a3, a4, a5⟩ := hs
  refine ⟨?_, ?_, ?_, ?_, ?_⟩
  · exact World.cell?_setCell_same' _ _ _ (by rw [a1]; rfl)
  · rw [World.frozen?_setCell]; exact a2
  · exact (cell_set_other h1 _).trans a3
  · exact (cell_set_other h1 _).trans a4
  · exact (cell_set_other h2 _).trans a5

theorem own3_alloc {bd bp bg fb lim v : Nat} {W : World} (hs : Own3 bd bp bg fb lim v W) (o : Obj) : Own3 bd bp bg fb lim v (W.alloc o) := by
  obtain ⟨a1, a2, a3, a4, a5⟩ := hs
  exact ⟨cell_alloc_l _ a1, frozen_alloc_l _ a1 a2, cell_alloc_l _ a3, cell_alloc_l _ a4, cell_alloc_l _ a5⟩

/-- The caller's own boxes: the number that is asked for, and the result. -/
def Cl (w : World) (m : Nat) (x : Int) (r : Nat) (W : World) : Prop :=
  W.cell? ⟨w.heap.size + 1, 0, none⟩ = some (.int .i64 x) ∧ W.cell? ⟨w.heap.size + 1 + 1, 0, none⟩ = some (.int .u64 r) ∧ W.frozen? ⟨w.heap.size + 1 + 1, 0, none⟩ = false ∧ Below w.heap.size w W ∧ m ≤ W.heap.size
theorem cl_put {w : World} {m : Nat} {x : Int} {r : Nat} {W : World} {l : Nat} {o : Obj} (o' : Obj) (hs : Cl w m x r W) (hm : w.heap.size ≤ m) (hl : m ≤ l) (h : W.heap[l]? = some o) (hc : o.isCells = false) : Cl w m x r (W.putObj l o') := by
  obtain ⟨h1, h2, h3, h4, h5⟩ := hs
  exact ⟨cell_put o' h hc h1, cell_put o' h hc h2, (frozen_put o' h hc h2).trans h3, below_put o' h4 (by omega) (by omega), by rw [World.putObj_size]; exact h5⟩
theorem cl_alloc {w : World} {m : Nat} {x : Int} {r : Nat} {W : World} (hs : Cl w m x r W) (hm : w.heap.size ≤ m) (o : Obj) : Cl w m x r (W.alloc o) := by
  obtain ⟨h1, h2, h3, h4, h5⟩ := hs
  exact ⟨cell_alloc_l _ h1, cell_alloc_l _ h2, frozen_alloc_l _ h2 h3, h4.alloc (by omega) _, by simp; omega⟩
theorem cl_set {w : World} {m : Nat} {x : Int} {r : Nat} {W : World} (hs : Cl w m x r W) {bd : Nat} (hb : w.heap.size + 1 + 1 < bd) (v : Value) : Cl w m x r (W.setCell ⟨bd, 0, none⟩ v) := by
  obtain ⟨h1, h2, h3, h4, h5⟩ := hs
  refine ⟨(cell_set_other (by omega) _).trans h1, (cell_set_other (by omega) _).trans h2, ?_, h4.setCell (p := ⟨bd, 0, none⟩) (by simp only []; omega) _, by simpa [World.setCell] using h5⟩
  rw [World.frozen?_setCell]; exact h3

/-- What Delay gives of a valid policy. -/
def delayP (wt fb lim : Nat) (n : Int) : Nat := if 1 ≤ n ∧ n ≤ 100 then dl wt fb lim (n - 1).toNat else 0

set_option maxHeartbeats 2000000 in
set_option maxRecDepth 100000 in
theorem delay_yes (most : Int) (wt fb lim tmo : Nat) (x : Int) (hv : Vld most wt lim tmo) (w : World) :
    Calls Tryd.prog 14 #[pol most wt fb lim tmo, .int .i64 x] w fun e w' => e = .returned (.int .u64 (delayP wt fb lim x)) ∧ Below w.heap.size w w' := by
  refine (callsIn_wide (n := 9)).1 ?_
  refine callsIn_of_wp_marks Tryd.func14 rfl trivial ?_ rfl
  have V := Lib.hid (fun w => valid_yes most wt fb lim tmo hv w)
  unfold pol at *
  simp only [Tryd.ntmps14, List.size_toArray, List.length_cons, List.length_nil, Nat.reduceAdd, Nat.reduceSub, Array.replicate_succ, Array.replicate_zero, List.push_toArray, List.append_toArray, List.nil_append, List.cons_append]
  gi_wp2_with fail
  refine ⟨trivial, (callsIn_wide.2 (V.out _)).mono ?_⟩
  rintro e W1 ⟨rfl, hb1⟩
  have hA : Below w.heap.size w (((w.alloc (.cells (polCells most wt fb lim tmo) 30)).alloc (.cells #[.int .i64 x] 3)).alloc (.cells #[.int .u64 0] 22)) :=
    (((Below.refl _ _).alloc (Nat.le_refl _) _).alloc (by simp) _).alloc (by simp; omega) _
  have hB : Below w.heap.size w W1 := hA.trans (hb1.mono (by simp; omega))
  have hz : w.heap.size + 1 + 1 < W1.heap.size := by have := hb1.size; simp at this; omega
  have q0 : W1.cell? ⟨w.heap.size, 0, none⟩ = some (.int .i64 most) := (hb1.cell (p := ⟨w.heap.size, 0, none⟩) (by simp; omega)).trans (by simp [go_sem])
  have q1 : W1.cell? ⟨w.heap.size, 1, none⟩ = some (.int .u64 wt) := (hb1.cell (p := ⟨w.heap.size, 1, none⟩) (by simp; omega)).trans (by simp [go_sem])
  have q2 : W1.cell? ⟨w.heap.size, 2, none⟩ = some (.float .f64 fb) := (hb1.cell (p := ⟨w.heap.size, 2, none⟩) (by simp; omega)).trans (by simp [go_sem])
  have q3 : W1.cell? ⟨w.heap.size, 3, none⟩ = some (.int .u64 lim) := (hb1.cell (p := ⟨w.heap.size, 3, none⟩) (by simp; omega)).trans (by simp [go_sem])
  have q4 : W1.cell? ⟨w.heap.size, 4, none⟩ = some (.int .u64 tmo) := (hb1.cell (p := ⟨w.heap.size, 4, none⟩) (by simp; omega)).trans (by simp [go_sem])
  have q5 : W1.cell? ⟨w.heap.size + 1, 0, none⟩ = some (.int .i64 x) := (hb1.cell (p := ⟨w.heap.size + 1, 0, none⟩) (by simp)).trans (by simp [go_sem])
  have q6 : W1.cell? ⟨w.heap.size + 1 + 1, 0, none⟩ = some (.int .u64 0) := (hb1.cell (p := ⟨w.heap.size + 1 + 1, 0, none⟩) (by simp)).trans (by simp [go_sem])
  have q7 : W1.frozen? ⟨w.heap.size + 1 + 1, 0, none⟩ = false := (hb1.frozen (p := ⟨w.heap.size + 1 + 1, 0, none⟩) (by simp)).trans (by simp [go_sem])
  have HB := Lib.hid hB; have HZ := Lib.hid hz
  clear hA hB hb1 hz V
  gi_wp2_with fail
  refine ⟨trivial, (callsIn_wide.2 (delays_new most wt fb lim tmo W1)).mono ?_⟩
  rintro e W2 ⟨rfl, hW2⟩
  gi_wp2_with fail
  have c2 : Cl w W2.heap.size x 0 W2 := by
    rw [← hW2]
    have hz := HZ.out
    exact ⟨cell_alloc_l _ (cell_alloc_l _ (cell_alloc_l _ q5)), cell_alloc_l _ (cell_alloc_l _ (cell_alloc_l _ q6)),
      frozen_alloc_l _ (cell_alloc_l _ (cell_alloc_l _ q6)) (frozen_alloc_l _ (cell_alloc_l _ q6) (frozen_alloc_l _ q6 q7)),
      ((HB.out.alloc (by omega) _).alloc (by simp; omega) _).alloc (by simp; omega) _, Nat.le_refl _⟩
  have o2 : Own3 (W1.heap.size + 1) W1.heap.size (W1.heap.size + 1 + 1) fb lim wt W2 := by
    rw [← hW2]
    refine ⟨by simp [go_sem], by simp [go_sem], by simp [go_sem, polCells], by simp [go_sem, polCells], by simp [go_sem]⟩
  have z2 : W1.heap.size + 1 < W2.heap.size := by rw [← hW2]; simp
  have hz := HZ.out
  obtain ⟨bp, hbp⟩ : ∃ bp, bp = W1.heap.size := ⟨_, rfl⟩
  rw [← hbp] at o2 z2 hz ⊢
  clear hW2 q0 q1 q2 q3 q4 q5 q6 q7 HB HZ hbp
  obtain ⟨hv1, hv2, hv3, hv4, hv5⟩ := hv
  refine range_law (σ := Nat) rfl (by omega) (gf := 52) (lb := #[.pointer (some ⟨bp + 1, 0, none⟩), .pointer (some ⟨bp, 0, none⟩), .pointer (some ⟨bp + 1 + 1, 0, none⟩)]) rfl trivial (enters_of Tryd.func52 (by kernel_rfl) rfl)
    (fun k => #[.int .i64 ((k : Int) + 1), .int .u64 (dl wt fb lim k)]) (fun _ => rfl)
    (fun k W => k < 100 ∧ (∀ j : Nat, j < k → (j : Int) + 1 ≠ x) ∧ Cl w W2.heap.size x 0 W ∧ Own3 (bp + 1) bp (bp + 1 + 1) fb lim (dl wt fb lim k) W)
    (fun k W => k < 100 ∧ (∀ j : Nat, j ≤ k → (j : Int) + 1 ≠ x) ∧ Cl w W2.heap.size x 0 W ∧ Own3 (bp + 1) bp (bp + 1 + 1) fb lim (dl wt fb lim k) W)
    (fun c W => c = .ret ∧ ∃ k : Nat, k < 100 ∧ (k : Int) + 1 = x ∧ Cl w W2.heap.size x (dl wt fb lim k) W)
    (fun W => (∀ j : Nat, j < 100 → (j : Int) + 1 ≠ x) ∧ Cl w W2.heap.size x 0 W)
    (fun k W l o o' h hl ho hc => ⟨h.1, h.2.1, cl_put o' h.2.2.1 (by omega) hl ho hc, own3_put o' ho hc h.2.2.2⟩)
    (fun k W l o o' h hl ho hc => ⟨h.1, h.2.1, cl_put o' h.2.2.1 (by omega) hl ho hc, own3_put o' ho hc h.2.2.2⟩)
    (fun c W l o o' h hl ho hc => by
      obtain ⟨e, k, h1, h2, h3⟩ := h
      exact ⟨e, k, h1, h2, cl_put o' h3 (by omega) hl ho hc⟩)
    (fun W l o o' h hl ho hc => ⟨h.1, cl_put o' h.2 (by omega) hl ho hc⟩)
    (fun k => { tmps := #[.agg #[.int .i64 most, .int .u64 wt, .float .f64 fb, .int .u64 lim, .int .u64 tmo], .int .i64 x, .pointer (some ⟨w.heap.size, 0, none⟩), .pointer (some ⟨w.heap.size + 1, 0, none⟩), .pointer (some ⟨w.heap.size + 1 + 1, 0, none⟩), .int .i64 ((k : Int) + 1), .int .u64 (dl wt fb lim k),
      .agg #[.int .i64 most, .int .u64 wt, .float .f64 fb, .int .u64 lim, .int .u64 tmo], .bool true, .bool false, .agg #[.int .i64 most, .int .u64 wt, .float .f64 fb, .int .u64 lim, .int .u64 tmo],
      .func (.func 52) #[] #[.pointer (some ⟨bp + 1, 0, none⟩), .pointer (some ⟨bp, 0, none⟩), .pointer (some ⟨bp + 1 + 1, 0, none⟩)], .int .i64 ((k : Int) + 1), .int .u64 (dl wt fb lim k), undef, undef, undef, undef], defers := [] })
    ?assign ?body ?iter ?done ?stop
  case assign =>
    intro l k W K hK
    gi_wp2
    exact hK
  case body =>
    rintro l k W ⟨hk, hne, ⟨h1, h2, h3, h4, h5⟩, ho⟩
    by_cases he : (k : Int) + 1 = x
    · have heq : ((k : Int) + 1 == x) = true := by simp [he]
      have HE := Lib.hid he; clear he
      gi_wp2
      refine ⟨KeepsOthers.setCell _ _ _, rfl, k, hk, HE.out, ?_⟩
      refine ⟨(World.cell?_of_block (w := W) (Below.heap_setCell W _ _ _ (by simp))).trans h1, World.cell?_setCell_same' _ _ _ (by rw [h2]; rfl), by rw [World.frozen?_setCell]; exact h3, h4.setCell (by simp; omega) _, by simpa [World.setCell] using h5⟩
    · have heq : ((k : Int) + 1 == x) = false := by simp [he]
      have HE := Lib.hid he; clear he
      have HN := Lib.hid hne; clear hne
      gi_wp2
      refine ⟨KeepsOthers.refl _, hk, ?_, ⟨h1, h2, h3, h4, h5⟩, ho⟩
      intro j hj
      by_cases hjk : j = k
      · rw [hjk]; exact HE.out
      · exact HN.out j (by omega)
  case iter =>
    intro l o o' L L' ho ho' hLs hLd hY hl0
    refine iter_in 8 (by omega) l (bp + 1) bp (bp + 1 + 1) wt fb lim (by omega)
      (fun k W => (∀ j : Nat, j < k → (j : Int) + 1 ≠ x) ∧ Cl w W2.heap.size x 0 W ∧ Own3 (bp + 1) bp (bp + 1 + 1) fb lim (rawD wt fb lim k) W)
      (fun k W => k < 100 ∧ (∀ j : Nat, j < k → (j : Int) + 1 ≠ x) ∧ Cl w W2.heap.size x 0 W ∧ Own3 (bp + 1) bp (bp + 1 + 1) fb lim (dl wt fb lim k) W)
      (fun k W => k < 100 ∧ (∀ j : Nat, j ≤ k → (j : Int) + 1 ≠ x) ∧ Cl w W2.heap.size x 0 W ∧ Own3 (bp + 1) bp (bp + 1 + 1) fb lim (dl wt fb lim k) W)
      (fun c W => c = .ret ∧ ∃ k : Nat, k < 100 ∧ (k : Int) + 1 = x ∧ Cl w W2.heap.size x (dl wt fb lim k) W)
      L L' (fun k W h => h.2.2) (fun k W hk h => ⟨hk, h.1, cl_set h.2.1 (by omega) _, own3_set h.2.2 (by omega) (by omega) _⟩) (fun k W h => h.2.2.2)
      (fun k W h => ⟨fun j hj => h.2.1 j (by omega), cl_set h.2.2.1 (by omega) _, own3_set h.2.2.2 (by omega) (by omega) _⟩)
      (fun W v h => hLs W ⟨bp + 1, 0, none⟩ v (by simp only []; omega) h) (fun k W h hl => hY k W h hl) _ ⟨fun j hj => by omega, cl_alloc (cl_alloc c2 (by omega) _) (by omega) _, own3_alloc (own3_alloc o2 _) _⟩ hl0 |>.mono ?_
    rintro e W' ⟨hv, ⟨h, hl⟩ | h⟩
    · exact ⟨hv, .inl ⟨⟨h.1, h.2.1⟩, hl⟩⟩
    · exact ⟨hv, .inr h⟩
  case done =>
    rintro D W hD ⟨hne, ⟨h1, h2, h3, h4, h5⟩⟩ hK
    have R : Hid (delayP wt fb lim x = 0) := by
      show delayP wt fb lim x = 0
      unfold delayP
      rw [if_neg]
      intro hx
      exact hne (x - 1).toNat (by have := hx.1; have := hx.2; omega) (by have := hx.1; omega)
    have HN := Lib.hid hne; clear hne
    gi_wp2
    refine ⟨by simp, .inl ⟨_, _, rfl, run_takeDeferred ((Below.heap_setCell W _ _ D (by simp; omega)).trans hK), ?_⟩⟩
    have hc : (W.setCell ⟨w.heap.size + 1 + 1, 0, none⟩ (.int .u64 0)).cell? ⟨w.heap.size + 1 + 1, 0, none⟩ = some (.int .u64 0) := World.cell?_setCell_same' _ _ _ (by rw [h2]; rfl)
    have hc' := cell_put (.deferred none) ((Below.heap_setCell W ⟨w.heap.size + 1 + 1, 0, none⟩ (.int .u64 0) D (by simp; omega)).trans hK) rfl hc
    refine ⟨.int .u64 0, by simp [results, Tryd.results14, go_sem, hc'], ret_int (by rw [R.out]; rfl), below_put _ (h4.setCell (by simp; omega) _) (by simp [World.setCell]; omega) (by omega)⟩
  case stop =>
    rintro D c W hD ⟨rfl, k, hk, he, ⟨h1, h2, h3, h4, h5⟩⟩ hK
    have R : Hid (delayP wt fb lim x = dl wt fb lim k) := by
      show delayP wt fb lim x = dl wt fb lim k
      unfold delayP
      rw [if_pos (by omega)]
      congr 1; omega
    have HE := Lib.hid he; clear he
    gi_wp2
    refine ⟨by simp, .inl ⟨_, _, rfl, run_takeDeferred hK, ?_⟩⟩
    have hc' := cell_put (.deferred none) hK rfl h2
    refine ⟨.int .u64 (dl wt fb lim k), by simp [results, Tryd.results14, go_sem, hc'], ret_int (by rw [R.out]), below_put _ h4 (by omega) (by omega)⟩
end Rt
end Go.Proofs.YtdibokeinmhmbaaDoor
