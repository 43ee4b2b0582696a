/- The reference's builder: add. -/
import Derived.Test.YtpnepnhajpmccaaCwJ
import Derived.Deep.RegionLaw
import Derived.Deep.AppendLies
namespace Go.Proofs.Ytpnepnhajpmccaa
open Go.RowKit
set_option linter.unusedVariables false
namespace Cm
open Nm (bitsW ret_int ret_bool)
open Vt (VT Rep BoxAt below_drew Cloned put5 toList_inj rowCells)
open Ev (EV FieldsOk evCells vCells EBox ERep zeroT)

/-- The cells of a row of the reference's builder. -/
theorem MAt.row {w : World} {base : Nat} {A : Option Addr} {cap : Nat} {es : List EV} (h : MAt w base A cap es) : ∃ xs : List Value, xs.length = es.length * 11 ∧ (∀ u ∈ xs, u.oneCell' = true) ∧
    (0 < es.length → ∃ ad : Addr, A = some ad ∧ ad.block < w.heap.size ∧ ∀ j u, xs[j]? = some u → w.cell? (ad.add j) = some u) ∧
    ∀ i (h : i < es.length), ∃ vk vn vf vs A' m c, FieldsOk es[i] ∧ Rep w 0 base es[i].v (vCells vk vn vf vs A' m c) ∧ ∀ q, q < 11 → xs[i * 11 + q]? = (evCells es[i] vk vn vf vs A' m c)[q]? := by
  rcases Nat.eq_zero_or_pos es.length with h0 | hp
  · exact ⟨[], by simp [h0], by simp, fun h => absurd h (by omega), fun i hi => absurd hi (by omega)⟩
  · obtain ⟨b, rfl, h1, h2, h3⟩ := h.at_ hp
    have hc : ∀ j, j < es.length * 11 → ∃ u, w.cell? ⟨b, j, none⟩ = some u ∧ u.oneCell' = true := by
      intro j hj
      obtain ⟨vk, vn, vf, vs, A', m, c, -, -, h4⟩ := h3 (j / 11) (by omega)
      have h5 := h4 (j % 11) (by omega)
      rw [show j / 11 * 11 + j % 11 = j from by omega] at h5
      have h6 : j % 11 < (evCells es[j / 11] vk vn vf vs A' m c).size := by simp only [evCells_get]; omega
      rw [Array.getElem?_eq_getElem h6] at h5
      exact ⟨_, h5, ev_one _ _ _ _ _ _ _ _ _ (by rw [Array.mem_toList_iff]; exact Array.getElem_mem h6)⟩
    have hg : ∀ j, j < es.length * 11 → (rowCells w (some ⟨b, 0, none⟩) (es.length * 11))[j]? = w.cell? ⟨b, j, none⟩ := by
      intro j hj
      obtain ⟨u, h4, -⟩ := hc j hj
      simp [rowCells, List.getElem?_range hj, h4]
    refine ⟨rowCells w (some ⟨b, 0, none⟩) (es.length * 11), by simp [rowCells], ?_, fun _ => ⟨_, rfl, h2, ?_⟩, ?_⟩
    · intro u hu
      simp only [rowCells, List.mem_map, List.mem_range] at hu
      obtain ⟨j, hj, rfl⟩ := hu
      obtain ⟨u, h4, h5⟩ := hc j hj
      rw [Nat.zero_add, h4]
      exact h5
    · intro j u hu
      have hj : j < es.length * 11 := by
        have := (List.getElem?_eq_some_iff.1 hu).1
        simpa [rowCells] using this
      rw [hg j hj] at hu
      rw [Vt.add_plain', Nat.zero_add]
      exact hu
    · intro i hi
      obtain ⟨vk, vn, vf, vs, A', m, c, h4, h5, h6⟩ := h3 i hi
      exact ⟨vk, vn, vf, vs, A', m, c, h4, h5, fun q hq => (hg _ (by omega)).trans (h6 q hq)⟩

theorem grown_refl (w : World) (r : Option Nat) : w.grownBy w r := ⟨rfl, rfl, rfl, Nat.le_refl _, fun _ _ _ => rfl⟩

/-- The first append: a list onto an empty one of the call's own. -/
theorem step_first {ops : Array Oper} {o : Oper} {a : Act} {W : World} {K : Act → World → Prop} {Q : Exit → Act → World → Prop} {E : Prop} (hgd : o.guard = none) (s x : Operand)
    (ho : o.op = .call { callee := .builtin .append, args := #[s, x], argTypes := #[28, 28] })
    (base : Nat) (i : TypeInfo) (z : Value) (hi : Try.prog.info? 45 = some i) (hz : i.zero = some z) (hsize : i.size = 11) (hby : i.bytes = 128) (hzs : z.cells.size = 11)
    (g0 : Nat) (hs : a.eval s = .slice (some ⟨g0, 0, none⟩) 0 0) (hg0 : W.heap[g0]? = some (.cells #[] 45 (0, 0))) (hb : base ≤ g0)
    (A : Option Addr) (n c : Nat) (xs : List Value) (hx : a.eval x = .slice A n c) (hl : xs.length = n * 11) (h0 : n = 0 → A = none ∧ c = 0)
    (hA : 0 < n → ∃ ad : Addr, A = some ad ∧ ∀ j u, xs[j]? = some u → W.cell? (ad.add j) = some u) (h1 : ∀ u ∈ xs, u.oneCell' = true) (hn : n ≤ 1000000)
    (h : ∀ g cap w', w'.ownsRow base 45 11 (.slice (some ⟨g, 0, none⟩) n cap) n xs → W.grownBy w' (some g0) → (g0 = g ∨ g = W.heap.size) → g < w'.heap.size → K (a.put o.dst (.slice (some ⟨g, 0, none⟩) n cap)) w') :
    if Region.wanted o (yielded ops a.tmps) = true then Oper.wp Try.prog o a W K Q else E := by
  have hlt : g0 < W.heap.size := (Array.getElem?_eq_some_iff.1 hg0).1
  have hown : W.ownsRow base 45 11 (.slice (some ⟨g0, 0, none⟩) 0 0) 0 [] := ⟨rfl, .inr ⟨g0, 0, #[], rfl, hb, hg0, Nat.le_refl _, Nat.zero_le _, rfl, rfl⟩⟩
  rcases Nat.eq_zero_or_pos n with hn0 | hp
  · subst hn0
    obtain ⟨rfl, rfl⟩ := h0 rfl
    obtain rfl : xs = [] := List.eq_nil_of_length_eq_zero hl
    have hw : Region.wanted o (yielded ops a.tmps) = true := by simp [Region.wanted, hgd]
    rw [if_pos hw]
    have hrun := run_append_owned_none (P := Try.prog) (w := W) base 28 o.type 45 i 11 Try.underlying28 hi _ 0 [] hown
    unfold Oper.wp execOp
    simp only [ho, resolve, invoke, builtin, Sem.run_bind, Sem.run_pure, Result.andThen_ok, List.map_toArray, List.map_cons, List.map_nil, hs, hx, hrun]
    exact h g0 0 W hown (grown_refl _ _) (.inl rfl) hlt
  · obtain ⟨ad, rfl, hc⟩ := hA hp
    refine step_append_lies W hgd s x 28 ho base 45 i z 11 128 Try.underlying28 hi hz hsize hby hzs (by decide) _ 0 [] hs hown ad n c xs hx hl hc h1 hp (by simp only [maxLen]; omega) (by omega) (by omega) _ rfl ?_
    intro g cap w' k1 k2 k3 k4
    rw [Nat.zero_add] at k1 ⊢
    rw [List.nil_append] at k1
    exact h g cap w' k1 k2 (k3.imp (fun e => Option.some.inj e) id) k4

/-- Behind the second append. -/
theorem MAt.push {w w' : World} {base B r cap' : Nat} {es : List EV} {e : EV} {xs : List Value} {vk vn : Int} {vf : Nat} {vs : ByteArray} {A' : Option Addr} {m c : Nat}
    (hlx : xs.length = es.length * 11) (hx : ∀ i (h : i < es.length), ∃ vk vn vf vs A' m c, FieldsOk es[i] ∧ Rep w 0 base es[i].v (vCells vk vn vf vs A' m c) ∧ ∀ q, q < 11 → xs[i * 11 + q]? = (evCells es[i] vk vn vf vs A' m c)[q]?)
    (hf : FieldsOk e) (hv : Rep w 0 base e.v (vCells vk vn vf vs A' m c)) (hb : Below B w w') (hB : base ≤ B)
    (hown : w'.ownsRow B 45 11 (.slice (some ⟨r, 0, none⟩) (es.length + 1) cap') (es.length + 1) (xs ++ (evCells e vk vn vf vs A' m c).toList)) : MAt w' base (some ⟨r, 0, none⟩) cap' (es ++ [e]) := by
  rcases hown.2 with ⟨h, -⟩ | ⟨r', cp, cur, q1, q2, q3, q4, q5, q6, q7⟩
  · cases h
  · injection q1 with q1 _ qc
    injection q1 with q1
    injection q1 with q1 _ _
    subst q1 qc
    have hlen : (es ++ [e]).length = es.length + 1 := by simp
    refine ⟨fun h => absurd h (by simp), by omega, q5, fun _ => ⟨r, rfl, by omega, (Array.getElem?_eq_some_iff.1 q3).1, fun i hi => ?_⟩⟩
    have hcell : ∀ q, q < 11 → w'.cell? ⟨r, i * 11 + q, none⟩ = (xs ++ (evCells e vk vn vf vs A' m c).toList)[i * 11 + q]? := by
      intro q hq
      rw [← q7, List.getElem?_take_of_lt (by omega), Array.getElem?_toList]
      simp [World.cell?, q3]
    by_cases hlt : i < es.length
    · rw [List.getElem_append_left hlt]
      obtain ⟨vk', vn', vf', vs', A2, m', c', p1, p2, p3⟩ := hx i hlt
      exact ⟨vk', vn', vf', vs', A2, m', c', p1, p2.later (hb.mono hB), fun q hq => (hcell q hq).trans ((List.getElem?_append_left (by omega)).trans (p3 q hq))⟩
    · obtain rfl : i = es.length := by omega
      rw [List.getElem_append_right (Nat.le_refl _)]
      simp only [Nat.sub_self, List.getElem_cons_zero]
      refine ⟨vk, vn, vf, vs, A', m, c, hf, hv.later (hb.mono hB), fun q hq => (hcell q hq).trans ?_⟩
      rw [List.getElem?_append_right (by omega), hlx, Nat.add_sub_cancel_left, Array.getElem?_toList]

theorem emp1 (W : World) (Z : Obj) : (W.drew.alloc Z).heap[W.heap.size]? = some Z := heap_alloc_new W.drew Z
theorem emp2 (W : World) (Z Z' : Obj) : ((W.drew.alloc Z).alloc Z').heap[W.heap.size]? = some Z := (heap_alloc_old _ Z' (by show W.heap.size < (W.drew.alloc Z).heap.size; rw [World.size_alloc]; exact Nat.lt_succ_self _)).trans (emp1 W Z)
theorem emp3 (W : World) (Z Z' : Obj) : ((W.drew.alloc Z).alloc Z').heap[W.heap.size + 1]? = some Z' := by
  have := heap_alloc_new (W.drew.alloc Z) Z'
  rw [World.size_alloc] at this
  exact this

set_option maxRecDepth 100000 in
set_option maxHeartbeats 4000000 in
theorem radd_any (base : Nat) (A : Option Addr) (cap : Nat) (es : List EV) (next at' : Nat) (e : EV) (vk vn : Int) (vf : Nat) (vs : ByteArray) (A' : Option Addr) (m c : Nat) (w : World) (h : MAt w base A cap es) (hn : es.length ≤ 1000000)
    (hbw : base ≤ w.heap.size) (hf : FieldsOk e) (hv : Rep w 0 base e.v (vCells vk vn vf vs A' m c)) :
    Calls Try.prog 47 #[.agg #[.int .u64 next, .int .u64 at', .slice A es.length cap], .agg (evCells e vk vn vf vs A' m c)] w fun r w' =>
      ∃ b cap', r = .returned (.agg #[.int .u64 next, .int .u64 at', .slice (some ⟨b, 0, none⟩) (es.length + 1) cap']) ∧ Below w.heap.size w w' ∧ w.heap.size ≤ b ∧ MAt w' base (some ⟨b, 0, none⟩) cap' (es ++ [e]) := by
  obtain ⟨xs, hlx, h1x, hat, hxe⟩ := h.row
  have hnil : es.length = 0 → A = none ∧ cap = 0 := fun e => h.nil_ (List.eq_nil_of_length_eq_zero e)
  obtain ⟨i0, hi0, hz0, hz1, hz2⟩ := info_parts Try.infoE
  obtain ⟨W0, hW0⟩ : ∃ W0, W0 = ((w.alloc (.cells #[.int .u64 next, .int .u64 at', .slice A es.length cap] 30)).alloc (.cells (evCells e vk vn vf vs A' m c) 45)).alloc (.cells #[.int .u64 0, .int .u64 0, .slice none 0 0] 30) := ⟨_, rfl⟩
  have hz : W0.heap.size = w.heap.size + 1 + 1 + 1 := by rw [hW0]; simp
  have HB0 : Hid (Below w.heap.size w W0) := Lib.hid (by rw [hW0]; exact (((Below.refl w.heap.size w).alloc (Nat.le_refl _) _).alloc (by simp) _).alloc (by simp; omega) _)
  have hb1 : W0.heap[w.heap.size]? = some (.cells #[.int .u64 next, .int .u64 at', .slice A es.length cap] 30) := by
    rw [hW0, heap_alloc_old _ _ (by simp only [World.size_alloc]; omega), heap_alloc_old _ _ (by simp only [World.size_alloc]; omega), heap_alloc_new]
  have hb2 : W0.heap[w.heap.size + 1]? = some (.cells (evCells e vk vn vf vs A' m c) 45) := by
    have := heap_alloc_new (w.alloc (.cells #[.int .u64 next, .int .u64 at', .slice A es.length cap] 30)) (.cells (evCells e vk vn vf vs A' m c) 45)
    rw [World.size_alloc] at this
    rw [hW0, heap_alloc_old _ _ (by simp only [World.size_alloc]; omega), this]
  have hb3 : W0.heap[w.heap.size + 1 + 1]? = some (.cells #[.int .u64 0, .int .u64 0, .slice none 0 0] 30) := by
    have := heap_alloc_new ((w.alloc (.cells #[.int .u64 next, .int .u64 at', .slice A es.length cap] 30)).alloc (.cells (evCells e vk vn vf vs A' m c) 45)) (.cells #[.int .u64 0, .int .u64 0, .slice none 0 0] 30)
    simp only [World.size_alloc] at this
    rw [hW0, this]
  have HBX : Hid (∀ W, Below W0.heap.size W0 W → W.cell? ⟨w.heap.size, 0, none⟩ = some (.int .u64 next) ∧ W.cell? ⟨w.heap.size, 1, none⟩ = some (.int .u64 at') ∧ W.cell? ⟨w.heap.size, 2, none⟩ = some (.slice A es.length cap) ∧ (∀ o, W.frozen? ⟨w.heap.size, o, none⟩ = false)) := Lib.hid fun W hW => by
    have := (hW.block w.heap.size (by omega)).trans hb1
    simp [World.cell?, World.frozen?, this]
  have HBY : Hid (∀ W, Below W0.heap.size W0 W → EBox W (w.heap.size + 1) (evCells e vk vn vf vs A' m c)) := Lib.hid fun W hW => (hW.block (w.heap.size + 1) (by omega)).trans hb2
  have HBZ : Hid (∀ W, Below W0.heap.size W0 W → W.cell? ⟨w.heap.size + 1 + 1, 0, none⟩ = some (.int .u64 0) ∧ W.cell? ⟨w.heap.size + 1 + 1, 1, none⟩ = some (.int .u64 0) ∧ W.cell? ⟨w.heap.size + 1 + 1, 2, none⟩ = some (.slice none 0 0) ∧ ∀ o, W.frozen? ⟨w.heap.size + 1 + 1, o, none⟩ = false) := Lib.hid fun W hW => by
    have := (hW.block (w.heap.size + 1 + 1) (by omega)).trans hb3
    simp [World.cell?, World.frozen?, this]
  have HA : Hid (∀ W, Below W0.heap.size W0 W → 0 < es.length → ∃ ad : Addr, A = some ad ∧ ∀ j u, xs[j]? = some u → W.cell? (ad.add j) = some u) := Lib.hid fun W hW hp => by
    obtain ⟨ad, hA, hlt, hc⟩ := hat hp
    refine ⟨ad, hA, fun j u hu => ?_⟩
    have hb := HB0.out.trans (hW.mono HB0.out.size)
    rw [hb.cell (by rw [Vt.block_of_add']; exact hlt)]
    exact hc j u hu
  have h1c : Hid (∀ u ∈ (evCells e vk vn vf vs A' m c).toList, u.oneCell' = true) := Lib.hid (ev_one e vk vn vf vs A' m c)
  have HP : Hid (∀ w' r cap', Below w.heap.size w w' → w'.ownsRow W0.heap.size 45 11 (.slice (some ⟨r, 0, none⟩) (es.length + 1) cap') (es.length + 1) (xs ++ (evCells e vk vn vf vs A' m c).toList) → MAt w' base (some ⟨r, 0, none⟩) cap' (es ++ [e])) :=
    Lib.hid fun w' r cap' hb hown => by
      refine MAt.push hlx hxe hf hv hb hbw ⟨hown.1, ?_⟩
      rcases hown.2 with h | ⟨r', cp, cur, q1, q2, q3⟩
      · exact .inl h
      · exact .inr ⟨r', cp, cur, q1, by omega, q3⟩
  obtain ⟨c0, c1, c2, cf⟩ := HBX.out W0 (Below.refl _ _)
  obtain ⟨d0, d1, d2, d3, d4, d5, d6, d7, d8, d9, d10⟩ := EBox.cells (HBY.out W0 (Below.refl _ _))
  have cf2 := cf 2
  have l0 : w.heap.size < W0.heap.size := by omega
  have l1 : w.heap.size + 1 < W0.heap.size := by omega
  have l2 : w.heap.size + 1 + 1 < W0.heap.size := by omega
  replace h1x := Lib.hid h1x
  replace hnil := Lib.hid hnil
  clear hat hxe h hf hv cf hb1 hb2 hb3
  unfold evCells at hW0 h1c HP
  replace hW0 := Lib.hid hW0
  replace hz := Lib.hid hz
  unfold evCells
  go_enter Try.func47, Try.ntmps47
  go_upto_region 1 with fail
  rw [← hW0.out]
  go_region_law (first
    | (refine step_first rfl (.tmp 5) (.tmp 7) rfl W0.heap.size i0 _ hi0 hz0 hz1 hz2 rfl _ (by simp [Act.eval]; try rfl) (by first | exact emp1 _ _ | exact emp2 _ _ _ | exact emp3 _ _ _ | exact heap_alloc_new _ _) (by simp) _ _ _ xs (by simp [Act.eval]; try rfl) hlx hnil.out (HA.out _ (by repeat (first | exact Below.refl _ _ | refine below_drew ?_ | refine Below.alloc ?_ (by first | omega | (simp; done) | (simp; omega)) _))) h1x.out hn ?_; intro r1 cap1 w1 hown1 hgrow1 hat1 hrl1; have hL1 : Below W0.heap.size W0 w1 := (Below.grown (by repeat (first | exact Below.refl _ _ | refine below_drew ?_ | refine Below.alloc ?_ (by first | omega | (simp; done) | (simp; omega)) _)) hgrow1 (by first | omega | (simp; done) | (simp; omega)) (fun k hk => by cases hk; simp)); have hr1 : W0.heap.size ≤ r1 := (by rcases hat1 with h | h <;> first | omega | (simp at h; omega)); obtain ⟨x0, x1, x2, xf⟩ := HBX.out _ hL1; obtain ⟨y0, y1, y2, y3, y4, y5, y6, y7, y8, y9, y10⟩ := EBox.cells (HBY.out _ hL1); have hlw := hL1.size; have m0 : w.heap.size < w1.heap.size := (by omega); have m1 : w.heap.size + 1 < w1.heap.size := (by omega))
    | (refine step_append_lies _ rfl (.tmp 8) (.tmp 10) 28 rfl W0.heap.size 45 i0 _ 11 128 Try.underlying28 hi0 hz0 hz1 hz2 rfl (by decide) _ es.length xs (by simp [Act.eval]; try rfl) (by first | exact hown1 | exact hown1.alloc _) ⟨_, 0, none⟩ 1 1 _ (by simp [Act.eval]; try rfl) rfl (by first | exact World.news_of_block (heap_alloc_new _ _) | exact World.news_of_block ((hgrow1.block _ (by first | omega | (simp; done) | (simp; omega)) (by first | omega | (simp; done) | (simp; omega))).trans (by first | exact emp1 _ _ | exact emp2 _ _ _ | exact emp3 _ _ _))) h1c.out (by decide) (by simp only [maxLen]; omega) (by omega) (by first | omega | (simp; done) | (simp; omega)) _ rfl ?_; intro r2 cap2 w2 hown2 hgrow2 hat2 hrl2; have hL2 : Below W0.heap.size W0 w2 := (Below.grown (by repeat (first | exact Below.refl _ _ | exact hL1 | refine below_drew ?_ | refine Below.alloc ?_ (by first | omega | (simp; done) | (simp; omega)) _)) hgrow2 (by first | omega | (simp; done) | (simp; omega)) (fun k hk => by cases hk; exact hr1)); obtain ⟨z0, z1, z2, zf⟩ := HBX.out _ hL2; have zf2 := zf 2; have hr2 : W0.heap.size ≤ r2 := (by rcases hat2 with h | h; (· cases h; exact hr1); (· first | omega | (simp at h; omega))); obtain ⟨q0, q1, q2, qf⟩ := HBZ.out _ hL2; have qf0 := qf 0; have qf1 := qf 1; have qf2 := qf 2))
  all_goals go_wp2_with fail
  all_goals refine bodyPost_ret (v := .agg #[.int .u64 next, .int .u64 at', .slice (some ⟨r2, 0, none⟩) (es.length + 1) cap2]) (by simp [results, Try.results47, go_sem, q0, q1, q2]) rfl ⟨r2, cap2, rfl, ?_, by omega, HP.out _ _ _ ?_ ?_⟩
  all_goals first
    | exact ownsRow_setCell_below (ownsRow_setCell_below (ownsRow_setCell_below (ownsRow_setCell_below hown2 l0 _) l2 _) l2 _) l2 _
    | exact ((((HB0.out.trans (hL2.mono HB0.out.size)).setCell (Nat.le_refl _) _).setCell (by show w.heap.size ≤ w.heap.size + 1 + 1; omega) _).setCell (by show w.heap.size ≤ w.heap.size + 1 + 1; omega) _).setCell (by show w.heap.size ≤ w.heap.size + 1 + 1; omega) _
end Cm
end Go.Proofs.Ytpnepnhajpmccaa
