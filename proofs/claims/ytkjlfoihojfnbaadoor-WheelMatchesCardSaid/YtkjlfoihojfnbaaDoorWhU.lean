/- Two wheels beside the reference's. -/
import Derived.Test.YtkjlfoihojfnbaaDoorWhR
namespace Go.Proofs.YtkjlfoihojfnbaaDoor
open Go.RowKit
set_option linter.unusedVariables false
set_option linter.unusedSimpArgs false
namespace Wh
open Lo (IRow KB Lies LiesO below_drew bef bef_iff Deb back_any equal_same itcs itcs_len itcs_one itcs_append itcs_cells)
theorem run_append_noneL (W : World) (ty : TypeId) (B : Option Addr) (n c c2 : Nat) (h : n ≤ c) : (Builtin.append_ #[39, 39] ty #[.slice B n c, .slice none 0 c2]).run Tryd.prog W = .ok (.slice B n c) W := by
  have t := Tryd.underlying39
  have z := Tryd.sizeOf34
  cases B <;> simp [Builtin.append_, run_underlying t, z, Builtin.lenOf, Builtin.firstCells, h, storeCells]
/-- Appending items that lie somewhere. -/
theorem run_append_itemsL (W : World) (ty : TypeId) (base : Nat) (v u : Value) (l l' : List (Nat × Nat)) (row : IRow 34 W base v l) (lies : Lies W u l') (hl : l.length + l'.length ≤ 100000) (hbase : base ≤ W.heap.size) :
    ∃ v' W', (Builtin.append_ #[39, 39] ty #[v, u]).run Tryd.prog W = .ok v' W' ∧ IRow 34 W' base v' (l ++ l') ∧ W.grownBy W' v.ownBlock ∧ (v'.ownBlock = v.ownBlock ∨ v'.ownBlock = some W.heap.size) := by
  obtain ⟨i0, hi, hz0, hz1, hz2⟩ := info_parts Lo.Tryd.infoI2
  obtain ⟨A, c, rfl, hc, hcells⟩ := lies
  cases l' with
  | nil =>
    cases A with
    | none =>
      obtain ⟨B, cap, rfl, h2, -⟩ := row.opened
      exact ⟨_, W, run_append_noneL W ty B l.length cap c h2, by rw [List.append_nil]; exact row, ⟨rfl, rfl, rfl, Nat.le_refl _, fun _ _ _ => rfl⟩, .inl rfl⟩
    | some a =>
      obtain ⟨v', W', hr, ho, hg, -, hb⟩ := run_append_own_at (P := Tryd.prog) W base 39 ty 34 i0 (.agg #[.int .u64 0, .int .u64 0]) 2 16 Tryd.underlying39 hi hz0 hz1 hz2 rfl (by decide) v l.length (itcs l) row a 0 c [] (by simp) (fun j u hu => by simp at hu) (by simp) (by simp only [maxLen]; omega) (by omega) hbase
      exact ⟨v', W', hr, by simpa [IRow] using ho, hg, hb⟩
  | cons x r =>
    obtain ⟨g, rfl, hg, -, -⟩ := hcells 0 (by simp)
    obtain ⟨v', W', hr, ho, hg, -, hb⟩ := run_append_own_at (P := Tryd.prog) W base 39 ty 34 i0 (.agg #[.int .u64 0, .int .u64 0]) 2 16 Tryd.underlying39 hi hz0 hz1 hz2 rfl (by decide) v l.length (itcs l) row ⟨g, 0, none⟩ (x :: r).length c (itcs (x :: r)) (itcs_len _) (fun j u hu => by
      have h := itcs_cells (w := W) (g := g) (l := x :: r) (fun j hj => by obtain ⟨g', e, -, q4, q5⟩ := hcells j hj; cases e; exact ⟨q4, q5⟩) j u hu
      cases j <;> simpa [Addr.add] using h) (itcs_one _) (by simp only [maxLen]; omega) (by omega) hbase
    refine ⟨v', W', hr, ?_, hg, hb⟩
    unfold IRow
    rw [itcs_append, List.length_append]
    exact ho
theorem wpList_append_itemsL {ops : Array Oper} {rest : List Oper} {o : Oper} {a : Act} {Q : Exit → Act → World → Prop} (W : World) (hgd : o.guard = none) (s x : Operand)
    (ho : o.op = .call { callee := .builtin .append, args := #[s, x], argTypes := #[39, 39] }) (base : Nat) (v u : Value) (l l' : List (Nat × Nat)) (hv : a.eval s = v) (hx : a.eval x = u) (row : IRow 34 W base v l) (lies : Lies W u l') (hl : l.length + l'.length ≤ 100000) (hbase : base ≤ W.heap.size)
    (h : ∀ v' W', IRow 34 W' base v' (l ++ l') → W.grownBy W' v.ownBlock → (v'.ownBlock = v.ownBlock ∨ v'.ownBlock = some W.heap.size) → wpList Tryd.prog ops Q rest (a.put o.dst v') W') : wpList Tryd.prog ops Q (o :: rest) a W := by
  obtain ⟨v', W', hr, q1, q2, q3⟩ := run_append_itemsL W o.type base v u l l' row lies hl hbase
  exact Lib.wpList_append_run W hgd s x _ _ ho _ _ hv hx _ W' hr (h v' W' q1 q2 q3)
set_option maxRecDepth 100000 in
set_option maxHeartbeats 1000000 in
theorem equal_sameL (l : List (Nat × Nat)) (hl : l.length ≤ 10000) (v u : Value) (w : World) (lies : Lies w v l) (lies' : Lies w u l) :
    Calls Tryd.prog 31 #[v, u] w fun e w' => e = .returned (.bool true) ∧ Below w.heap.size w w' := by
  obtain ⟨A, cap, rfl, hcap, hcells⟩ := lies
  obtain ⟨A', cap', rfl, hcap', hcells'⟩ := lies'
  have HCE := Lib.hid hcells
  have HCE' := Lib.hid hcells'
  have hl' : (l.length : Int) ≤ 10000 := by omega
  clear hcells hcells'
  go_enter Tryd.func31, Tryd.ntmps31
  go_wp2_with fail
  go_loopw [13] (fun vj wr => ∃ j : Nat, vj = .int .i64 (j : Int) ∧ j ≤ l.length ∧ Below w.heap.size w wr) (fun vj _ => l.length + 1 - (intOf vj).toNat)
  case atStart => exact ⟨0, rfl, by omega, Below.refl _ _⟩
  case round =>
    obtain ⟨j, rfl, hj, hbr⟩ := hrel
    rename_i wr
    have HBR := Lib.hid hbr
    by_cases hjn : j < l.length
    · obtain ⟨g, rfl, hg1, hg2, hg3⟩ := HCE.out j hjn
      obtain ⟨g', rfl, hg1', hg2', hg3'⟩ := HCE'.out j hjn
      have hg2 := (hbr.cell (p := ⟨g, j * 2, none⟩) hg1).trans hg2
      have hg3 := (hbr.cell (p := ⟨g, j * 2 + 1, none⟩) hg1).trans hg3
      have hg2' := (hbr.cell (p := ⟨g', j * 2, none⟩) hg1').trans hg2'
      have hg3' := (hbr.cell (p := ⟨g', j * 2 + 1, none⟩) hg1').trans hg3'
      have hjn' : (j : Int) < l.length := by omega
      clear hbr
      generalize l[j] = y at *
      go_wp2_with fail
      go_region
      all_goals
        go_wp2_with fail
        exact ⟨⟨j + 1, rfl, by omega, HBR.out.drew⟩, by simp [intOf]; omega⟩
    · have hjn' : ¬ ((j : Int) < l.length) := by omega
      clear hbr
      go_wp2_with fail
      go_ret
      exact ⟨rfl, HBR.out⟩
variable {base a b bx xb na nb nm t last : Nat} {w w' w0 wr w1 : World} {T TA TB G : List (Nat × Nat)} {v u : Value} {S S' : Nat → Prop}
/-- Its blocks are below what there is. -/
theorem Whl.cut (h : Whl base w b na T S) : Whl base w b na T (fun g => S g ∧ g < w.heap.size) := by
  obtain ⟨V, L, D, F, g1, g2, g3⟩ := h.ex
  exact ⟨⟨V, L, D, F, g1, g2, fun g hg => ⟨g3 g hg, g1.lt g hg⟩⟩, h.ids, h.sm, h.nowm, h.sorted⟩
theorem Whl.base_le {base' : Nat} (h : Whl base w b na T S) (hb : base' ≤ base) : Whl base' w b na T S := by
  obtain ⟨V, L, D, F, g1, g2, g3⟩ := h.ex
  exact ⟨⟨V, L, D, F, ⟨g1.blk, fun i hi => let h := g1.lev i hi; ⟨h.lv, fun s hs => (h.rows s hs).base_le hb, h.nob, h.dis, h.mlt, h.bits⟩, g1.due.base_le hb, g1.far.base_le hb, g1.map, g1.apart, Nat.le_trans hb g1.hb, Nat.le_trans hb g1.hm, fun i hi => Nat.le_trans hb (g1.hl i hi)⟩, g2, g3⟩, h.ids, h.sm, h.nowm, h.sorted⟩
/-- Wheels at a and b, the reference's in the box bx; a list u of items; a block xb that nobody writes. -/
structure W2St (base : Nat) (w0 wr : World) (a b bx xb na : Nat) (TA : List (Nat × Nat)) (nb : Nat) (TB : List (Nat × Nat)) (nm : Nat) (T : List (Nat × Nat)) (v : Value) (G : List (Nat × Nat)) (u : Value) : Prop where
  ex : ∃ SA SB, Whl base wr a na TA SA ∧ Whl base wr b nb TB SB ∧ (∀ g, SA g → ¬ SB g) ∧ ∀ g, SA g ∨ SB g → base ≤ g ∧ g < wr.heap.size ∧ g ≠ bx ∧ g ≠ xb ∧ v.ownBlock ≠ some g ∧ u.ownBlock ≠ some g
  row : IRow 29 wr base v T
  got : IRow 34 wr base u G
  vb : ∀ g, v.ownBlock = some g → g ≠ bx
  ub : ∀ g, u.ownBlock = some g → g ≠ bx ∧ v.ownBlock ≠ some g
  box : wr.heap[bx]? = some (.cells #[.int .u64 (nm : Nat), v] 49 (0, 0))
  bel : Below base w0 wr
  hw : base ≤ wr.heap.size
  hw0 : base ≤ w0.heap.size
  hbx : base ≤ bx
  hxb : xb < wr.heap.size
  dg : 0 < base
  deb : Deb w0
theorem W2St.debw (h : W2St base w0 wr a b bx xb na TA nb TB nm T v G u) : Deb wr := deb_ge h.deb h.dg h.bel h.hw0
theorem W2St.hbxl (h : W2St base w0 wr a b bx xb na TA nb TB nm T v G u) : bx < wr.heap.size := (Array.getElem?_eq_some_iff.1 h.box).1
theorem W2St.later (h : W2St base w0 wr a b bx xb na TA nb TB nm T v G u) (hb : Below wr.heap.size wr w') : W2St base w0 w' a b bx xb na TA nb TB nm T v G u := by
  obtain ⟨SA, SB, h1, h2, h3, h4⟩ := h.ex
  exact ⟨⟨SA, SB, h1.later hb, h2.later hb, h3, fun g e => let q := h4 g e; ⟨q.1, Nat.lt_of_lt_of_le q.2.1 hb.size, q.2.2⟩⟩, h.row.later hb, h.got.later hb, h.vb, h.ub, boxB h.box hb, h.bel.trans (hb.mono h.hw), Nat.le_trans h.hw hb.size, h.hw0, h.hbx, Nat.lt_of_lt_of_le h.hxb hb.size, h.dg, h.deb⟩
theorem W2St.swap (h : W2St base w0 wr a b bx xb na TA nb TB nm T v G u) : W2St base w0 wr b a bx xb nb TB na TA nm T v G u := by
  obtain ⟨SA, SB, h1, h2, h3, h4⟩ := h.ex
  exact ⟨⟨SB, SA, h2, h1, fun g e e2 => h3 g e2 e, fun g e => h4 g e.symm⟩, h.row, h.got, h.vb, h.ub, h.box, h.bel, h.hw, h.hw0, h.hbx, h.hxb, h.dg, h.deb⟩
/-- A block that is new is nobody's. -/
theorem W2St.other (h : W2St base w0 wr a b bx xb na TA nb TB nm T v G u) (hb : Below wr.heap.size wr w') {x2 : Nat} (h1 : wr.heap.size ≤ x2) (h2 : x2 < w'.heap.size) : W2St base w0 w' a b bx x2 na TA nb TB nm T v G u := by
  have h' := h.later hb
  obtain ⟨SA, SB, k1, k2, k3, k4⟩ := h.ex
  exact ⟨⟨SA, SB, k1.later hb, k2.later hb, k3, fun g e => let q := k4 g e; ⟨q.1, Nat.lt_of_lt_of_le q.2.1 hb.size, q.2.2.1, fun e2 => by have := q.2.1; omega, q.2.2.2.2⟩⟩, h'.row, h'.got, h'.vb, h'.ub, h'.box, h'.bel, h'.hw, h'.hw0, h'.hbx, h2, h'.dg, h'.deb⟩
theorem W2St.noBox (h : W2St base w0 wr a b bx xb na TA nb TB nm T v G u) : W2St base w0 wr a b bx bx na TA nb TB nm T v G u := by
  obtain ⟨SA, SB, k1, k2, k3, k4⟩ := h.ex
  exact ⟨⟨SA, SB, k1, k2, k3, fun g e => let q := k4 g e; ⟨q.1, q.2.1, q.2.2.1, q.2.2.1, q.2.2.2.2⟩⟩, h.row, h.got, h.vb, h.ub, h.box, h.bel, h.hw, h.hw0, h.hbx, h.hbxl, h.dg, h.deb⟩
/-- The wheel at a is changed. -/
theorem W2St.turn' {SA SB SA' : Nat → Prop} (h : W2St base w0 wr a b bx xb na TA nb TB nm T v G u) (h1 : Whl base wr a na TA SA) (h2 : Whl base wr b nb TB SB) (h3 : ∀ g, SA g → ¬ SB g) (h4 : ∀ g, SA g ∨ SB g → base ≤ g ∧ g < wr.heap.size ∧ g ≠ bx ∧ g ≠ xb ∧ v.ownBlock ≠ some g ∧ u.ownBlock ≠ some g)
    {na' : Nat} {TA' : List (Nat × Nat)} (k1 : Whl base w' a na' TA' SA') (k2 : ∀ g, SA' g → grown SA wr g) (kb : KB wr w' SA) : W2St base w0 w' a b bx xb na' TA' nb TB nm T v G u ∧ w'.heap[xb]? = wr.heap[xb]? := by
  have k1c := k1.cut
  have hsz := kb.size
  refine ⟨⟨⟨_, SB, k1c, h2.keep kb (fun g e e2 => h3 g e2 e), fun g e e2 => ?_, fun g e => ?_⟩, h.row.keepKB kb (fun g hg e => (h4 g (.inl e)).2.2.2.2.1 hg), h.got.keepKB kb (fun g hg e => (h4 g (.inl e)).2.2.2.2.2 hg), h.vb, h.ub, (kb.block bx h.hbxl (fun e => (h4 bx (.inl e)).2.2.1 rfl)).trans h.box, h.bel.trans (kb.below h.hw (fun g e => (h4 g (.inl e)).1)), Nat.le_trans h.hw hsz, h.hw0, h.hbx, Nat.lt_of_lt_of_le h.hxb hsz, h.dg, h.deb⟩, kb.block xb h.hxb (fun e => (h4 xb (.inl e)).2.2.2.1 rfl)⟩
  · rcases k2 g e.1 with q | q
    · exact h3 g q e2
    · have := (h4 g (.inr e2)).2.1; omega
  · have old : ∀ g, SA g ∨ SB g → base ≤ g ∧ g < w'.heap.size ∧ g ≠ bx ∧ g ≠ xb ∧ v.ownBlock ≠ some g ∧ u.ownBlock ≠ some g := fun g e => let q := h4 g e; ⟨q.1, Nat.lt_of_lt_of_le q.2.1 hsz, q.2.2⟩
    rcases e with ⟨e, e1⟩ | e
    · rcases k2 g e with q | q
      · exact old g (.inl q)
      · have := h.hbxl
        have := h.hxb
        exact ⟨Nat.le_trans h.hw q, e1, by omega, by omega, fun e3 => by have := (h.row.lt g e3).2; omega, fun e3 => by have := (h.got.lt g e3).2; omega⟩
    · exact old g (.inr e)
/-- What scheduling leaves. -/
def schT (T : List (Nat × Nat)) (x : Nat × Nat) : List (Nat × Nat) := if x.2 ≤ 9223372036854775807 then (if hasId T x.1 then T else insT T x) else T
theorem schT_len (T : List (Nat × Nat)) (x : Nat × Nat) : (schT T x).length ≤ T.length + 1 := by
  have h : (insT T x).length = T.length + 1 := by unfold insT; rw [Lo.sortI_len]; rfl
  unfold schT
  split
  · split <;> omega
  · omega
theorem W2St.sched (h : W2St base w0 wr a b bx xb na TA nb TB nm T v G u) (x : Nat × Nat) (hx : x.1 < 18446744073709551616 ∧ x.2 < 18446744073709551616) (hT : TA.length ≤ 900) :
    Calls Tryd.prog 26 #[.pointer (some ⟨a, 0, none⟩), .int .u64 (x.1 : Nat), .int .u64 (x.2 : Nat)] wr fun e w' => (∃ c : Int, e = .returned (.int .i64 c)) ∧ W2St base w0 w' a b bx xb na (schT TA x) nb TB nm T v G u ∧ w'.heap[xb]? = wr.heap[xb]? := by
  obtain ⟨SA, SB, h1, h2, h3, h4⟩ := h.ex
  by_cases ha : x.2 ≤ 9223372036854775807
  · by_cases hh : hasId TA x.1 = true
    · have e : schT TA x = TA := by unfold schT; rw [if_pos ha, if_pos hh]
      rw [e]
      exact (sched_twice x.1 x.2 h1 hx.1 ha hh).mono fun e w' ⟨he, hb⟩ => ⟨⟨_, he⟩, h.later hb, hb.block xb h.hxb⟩
    · have e : schT TA x = insT TA x := by unfold schT; rw [if_pos ha, if_neg hh]
      rw [e]
      have hh' : hasId TA x.1 = false := by simpa using hh
      exact (sched_ok x h1 hx.1 ha hh' h.hw hT).mono fun e w' ⟨he, hw', kb⟩ => ⟨⟨_, he⟩, W2St.turn' h h1 h2 h3 h4 hw' (fun g e => e) kb⟩
  · have e : schT TA x = TA := by unfold schT; rw [if_neg ha]
    rw [e]
    exact (sched_out x.1 x.2 h1 hx.1 hx.2 (by omega)).mono fun e w' ⟨he, hw'⟩ => ⟨⟨_, he⟩, hw' ▸ h, by rw [hw']⟩
theorem W2St.adv (h : W2St base w0 wr a b bx xb na TA nb TB nm T v G u) (hnt : na ≤ t) (ht : t ≤ 9223372036854775807) (hT : TA.length ≤ 1000) :
    Calls Tryd.prog 28 #[.pointer (some ⟨a, 0, none⟩), .int .u64 (t : Nat)] wr fun e w' => ∃ q, e = .returned (.tuple #[q, .int .i64 0]) ∧ Lies w' q (dueT TA t) ∧ W2St base w0 w' a b bx xb t (restT TA t) nb TB nm T v G u := by
  obtain ⟨SA, SB, h1, h2, h3, h4⟩ := h.ex
  exact (adv_ok h1 hnt ht h.debw h.dg h.hw hT).mono fun e w' ⟨q, he, hli, hu, hw', kb⟩ => ⟨q, he, hli, (W2St.turn' h h1 h2 h3 h4 hw' (fun g e => e.1) kb).1⟩
theorem W2St.count (h : W2St base w0 wr a b bx xb na TA nb TB nm T v G u) : Calls Tryd.prog 30 #[.pointer (some ⟨a, 0, none⟩)] wr fun e w' => e = .returned (.int .i64 (TA.length : Nat)) ∧ wr = w' := by
  obtain ⟨SA, SB, h1, -⟩ := h.ex
  exact wcount_any h1
theorem W2St.now (h : W2St base w0 wr a b bx xb na TA nb TB nm T v G u) : Calls Tryd.prog 32 #[.pointer (some ⟨a, 0, none⟩)] wr fun e w' => e = .returned (.int .u64 (na : Nat)) ∧ wr = w' := by
  obtain ⟨SA, SB, h1, -⟩ := h.ex
  exact now_any h1
theorem W2St.sortedA (h : W2St base w0 wr a b bx xb na TA nb TB nm T v G u) : TA.Pairwise bef := let ⟨SA, SB, h1, _⟩ := h.ex; h1.sorted
/-- The reference's wheel is stored. -/
theorem W2St.stored (h : W2St base w0 wr a b bx xb na TA nb TB nm T v G u) {w1 : World} (hb : Below wr.heap.size wr w1) {nm' : Nat} {T' : List (Nat × Nat)} {v' : Value} (row : IRow 29 w1 base v' T') (hv : ∀ g, v'.ownBlock = some g → v.ownBlock = some g ∨ wr.heap.size ≤ g) :
    W2St base w0 ((w1.setCell ⟨bx, 0, none⟩ (.int .u64 (nm' : Nat))).setCell ⟨bx, 1, none⟩ v') a b bx bx na TA nb TB nm' T' v' G u := by
  have h' := (h.later hb).noBox
  obtain ⟨SA, SB, k1, k2, k3, k4⟩ := h.ex
  have kb : KB w1 ((w1.setCell ⟨bx, 0, none⟩ (.int .u64 (nm' : Nat))).setCell ⟨bx, 1, none⟩ v') (fun g => g = bx) := (kb_set w1 bx 0 _).trans (kb_set _ bx 1 _) (fun j _ e => e)
  have hbl := h.hbxl
  have hv2 : ∀ g, v'.ownBlock = some g → g ≠ bx := fun g hg => by
    rcases hv g hg with e | e
    · exact h.vb g e
    · omega
  have hsz := kb.size
  refine ⟨⟨SA, SB, (k1.later hb).keep kb (fun g e e2 => (k4 g (.inl e)).2.2.1 e2), (k2.later hb).keep kb (fun g e e2 => (k4 g (.inr e)).2.2.1 e2), k3, fun g e => let q := k4 g e; ⟨q.1, Nat.lt_of_lt_of_le q.2.1 (Nat.le_trans hb.size hsz), q.2.2.1, q.2.2.1, fun e2 => ?_, q.2.2.2.2.2⟩⟩, row.keepKB kb hv2, h'.got.keepKB kb (fun g hg => (h.ub g hg).1), hv2, fun g hg => ⟨(h.ub g hg).1, fun e2 => ?_⟩, ?_, h'.bel.trans (kb.below h'.hw (fun g e => by rw [e]; exact h.hbx)), Nat.le_trans h'.hw hsz, h.hw0, h.hbx, Nat.lt_of_lt_of_le h'.hxb hsz, h.dg, h.deb⟩
  · rcases hv g e2 with e3 | e3
    · exact q.2.2.2.2.1 e3
    · have := q.2.1; omega
  · rcases hv g e2 with e3 | e3
    · exact (h.ub g hg).2 e3
    · have := (h.got.lt g hg).2; omega
  · exact blk_set (blk_set (boxB h.box hb) rfl) rfl
/-- More is appended to the list. -/
theorem W2St.more (h : W2St base w0 wr a b bx bx na TA nb TB nm T v G u) {G' : List (Nat × Nat)} {u' : Value} (row : IRow 34 w' base u' G') (hg : wr.grownBy w' u.ownBlock) (ho : u'.ownBlock = u.ownBlock ∨ u'.ownBlock = some wr.heap.size) :
    W2St base w0 w' a b bx bx na TA nb TB nm T v G' u' := by
  obtain ⟨SA, SB, k1, k2, k3, k4⟩ := h.ex
  have kb : KB wr w' (fun g => u.ownBlock = some g) := KB.of_grown _ hg (fun g e => e)
  have hbl := h.hbxl
  have hsz := kb.size
  refine ⟨⟨SA, SB, k1.keep kb (fun g e => (k4 g (.inl e)).2.2.2.2.2), k2.keep kb (fun g e => (k4 g (.inr e)).2.2.2.2.2), k3, fun g e => let q := k4 g e; ⟨q.1, Nat.lt_of_lt_of_le q.2.1 hsz, q.2.2.1, q.2.2.1, q.2.2.2.2.1, fun e2 => ?_⟩⟩, h.row.keepKB kb (fun g hg e => (h.ub g e).2 hg), row, h.vb, fun g e2 => ?_, (kb.block bx hbl (fun e => (h.ub bx e).1 rfl)).trans h.box, h.bel.trans (kb.below h.hw (fun g e => (h.got.lt g e).1)), Nat.le_trans h.hw hsz, h.hw0, h.hbx, Nat.lt_of_lt_of_le hbl hsz, h.dg, h.deb⟩
  · rcases ho with o | o
    · exact q.2.2.2.2.2 (o ▸ e2)
    · rw [o] at e2; cases e2; exact Nat.lt_irrefl _ q.2.1
  · rcases ho with o | o
    · exact h.ub g (o ▸ e2)
    · rw [o] at e2; cases e2
      exact ⟨by omega, fun e3 => Nat.lt_irrefl _ (h.row.lt _ e3).2⟩
theorem due_rest (t : Nat) : ∀ (T : List (Nat × Nat)), T.Pairwise bef → dueT T t ++ restT T t = T := by
  intro T
  induction T with
  | nil => intro _; rfl
  | cons x r ih =>
    intro so
    obtain ⟨h1, h2⟩ := List.pairwise_cons.1 so
    have ih := ih h2
    unfold dueT restT at ih ⊢
    by_cases hx : x.2 ≤ t
    · rw [List.filter_cons_of_pos (by simpa using hx), List.filter_cons_of_neg (by simp; omega), List.cons_append, ih]
    · have hn : ∀ y ∈ r, t < y.2 := fun y hy => by
        have := h1 y hy
        rw [bef_iff] at this; omega
      rw [List.filter_cons_of_neg (by simpa using hx), List.filter_cons_of_pos (by simp; omega), List.filter_eq_nil_iff.2 (fun y hy => by have := hn y hy; simp; omega), List.filter_eq_self.2 (fun y hy => decide_eq_true (hn y hy)), List.nil_append]
theorem due_end {D R : List (Nat × Nat)} (h1 : ∀ x ∈ D, x.2 ≤ t) (h2 : ∀ x ∈ R, t < x.2) : dueT (D ++ R) t = D ∧ restT (D ++ R) t = R := by
  unfold dueT restT
  rw [List.filter_append, List.filter_append]
  constructor
  · rw [List.filter_eq_self.2 (fun y hy => decide_eq_true (h1 y hy)), List.filter_eq_nil_iff.2 (fun y hy => by have := h2 y hy; simp; omega), List.append_nil]
  · rw [List.filter_eq_nil_iff.2 (fun y hy => by have := h1 y hy; simp; omega), List.filter_eq_self.2 (fun y hy => decide_eq_true (h2 y hy)), List.nil_append]
end Wh
end Go.Proofs.YtkjlfoihojfnbaaDoor
